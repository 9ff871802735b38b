/-
  Parts Xg Xr, put together and made short by wip/py/merge.py (mini.py).
-/
import Derived.Test.YtmjpjbmeamnfpaaGreatDoorZe5
import Derived.Test.YtmjpjbmeamnfpaaGreatDoorZe0
set_option linter.unusedVariables false
set_option linter.unusedSimpArgs false
namespace Go.Eng
open Go.RowKit
theorem MH: ∀ {L:XE} {k:Nat} {g:Bool} {v:Value},look L.d k=some (g,v)-> ∃g' v',B6 L k=some (g',v')/\g=g'.d/\v=v'.d
 |[],_,_,_,h=>by cases h
 |(t,g',v')::L,k,g,v,h=>by
  have h':look ((t,g'.d,v'.d)::XE.d L) k=some (g,v):=h
  unfold look at h'
  unfold B6
  split at h'<;>rename_i e<;>rw[e]
  ·cases h';exact⟨_,_,rfl,rfl,rfl⟩
  ·exact MH h'
abbrev DI(P:Program)(T:TT):Prop:= ∀t td,GD T t=some td->td.ok P t
abbrev B7(M:Mem)(F:List (Nat×Kn)):Prop:= ∀x∈F,x.2.ok M
theorem AA{M:Mem}:B7 M []:=λ x hx=>by cases hx
theorem C0{M:Mem}{F:List (Nat×Kn)}{k:Nat}{K:Kn}(h:K.ok M)(hF:B7 M F):B7 M ((k,K)::F):=λ x hx=>by
 rcases List.mem_cons.1 hx with rfl|hx
 ·exact h
 ·exact hF x hx
theorem fc{α:Type}[Inhabited α]{M:Mem}{F:List (Nat×Kn)}(k:Nat){v:Value}{sz:Nat}{l:List α}{f:α->List Value}(h:Sl M sz l.length v (l.flatMap f))(hf: ∀x,(f x).length=sz)(hF:B7 M F):B7 M ((k,kn v sz l f)::F):=C0 ⟨h,hf,trivial⟩ hF
theorem B7.get {M:Mem}{F:List (Nat×Kn)}(h:B7 M F){k:Nat}{K:Kn}(hk:IQ F k=some K):K.ok M:=by
 obtain⟨i,hi⟩:=cF hk;exact h _ hi
theorem GW{H:List (Nat×HX)}{Hr:List HO}{k:Nat}{x:HX}(hk:F5 H k=some x): ∃i:Nat,(HD H++Hr)[i]? =some x.d/\ ∀y,HD (DH H k y)++Hr=(HD H++Hr).set i y.d:=by
 obtain⟨i,h1,h2⟩:=cG hk
 have hlt:i<(HD H).length:=(List.getElem?_eq_some_iff.1 h1).1
 exact⟨i,by rw[List.getElem?_append_left hlt];exact h1,λ y=>by rw[h2 y,List.set_append_left _ _ hlt]⟩
theorem Q3{F:List (Nat×Kn)}{H:List (Nat×HX)}{Hr:List HO}{w0 w:World}{M0 M:Mem}{k:Nat}{K:Kn}(hF:B7 M F)(hS:St w0 M0 w M (HD H++Hr))(h:ME F H k=some K): ∃M' Hs',St w0 M0 w M' Hs'/\K.ok M':=by
 unfold ME at h
 split at h
 ·rename_i h1;cases h;exact⟨M,_,hS,hF.get h1⟩
 ·split at h
  ·rename_i e α inh v sz l f g' hg' hl h1
   cases h
   obtain⟨i,hi,_⟩:=GW (Hr:=Hr) h1
   have hi':(HD H++Hr)[i]? =some (.priv e sz v l.length (l.flatMap f)):=hi
   have ht:=hS.told hi'
   refine⟨_,_,ht,⟨ht.sl (i:=i) (by rw[List.getElem?_set_self (List.getElem?_eq_some_iff.1 hi').1]),hl,trivial⟩⟩
  ·cases h
theorem cL{c:XV}(h:WN c=true):c.d0=c.d:=by cases c<;>first|rfl|(exact absurd h (by decide))|cases h
section
variable {P:Program} {C:World->Prop} {L:XE} {W:Gd} {d:Option Tmp} {ty:TypeId} {ps:String} {af:Array Edge} {gd:Option (Nat×Bool)} {T:TT} {F:List (Nat×Kn)} {H:List (Nat×HX)} {Hr:List HO} {w0 w:World} {M0 M:Mem}
theorem _root_.Go.Eng.PV.pG {L:Env}{W:Bool}{α:Type}[Inhabited α]{f:α->List Value}{t:TypeId}{x:Operand}{sz j n:Nat}{v:Value}{l:List α}{i:Int}{Hs:List HO}(hS:St w0 M0 w M Hs)(hC: ∀w',C w'->Ext w w')(h:Sl M sz l.length v (l.flatMap f))(hf: ∀x,(f x).length=sz)
  (hx:A5 L W x (.pointer (some ⟨sb v,so v+i.toNat*sz+j,none⟩))) (ha: ∀w,(isAgg t).run P w= .ok true w) (hs: ∀w,(sizeOf t).run P w= .ok n w) (hr:W=true->0<=i/\i<len l) (hj:j+n<=sz):PV P C L W ⟨d,.load t x,ty,ps,af,gd⟩ (.agg (((f (at' l i)).drop j).take n).toArray):=by
 have hl:(((f (at' l i)).drop j).take n).length=n:=by rw[List.length_take,List.length_drop,hf];omega
 refine .aZ hx ha (λ w=>by rw[hl];exact hs w) λ hW w' hw q u hu=>?_
 obtain⟨h0,h1⟩:=hr hW
 have hq:q<n:=by have:=(List.getElem?_eq_some_iff.1 hu).1;omega
 rw[List.getElem?_take,if_pos hq,List.getElem?_drop]at hu
 obtain⟨hlt,e⟩:=G7 l h0 h1
 obtain⟨cap,hv,_,_,hc⟩:=h.at (by omega)
 have h2:=VU f sz hf l i.toNat (j+q) hlt (by omega)
 rw[<-e,hu]at h2
 have hlt2:i.toNat*sz+(j+q)<(l.flatMap f).length:=by
  rw[G8 f sz hf]
  have:=Nat.mul_le_mul_right sz (show i.toNat+1<=l.length from hlt)
  rw[Nat.add_mul]at this;omega
 have h3:=hc _ hlt2
 rw[h2]at h3
 rw[HB,show so v+i.toNat*sz+j+q=so v+(i.toNat*sz+(j+q))from by omega]
 exact(hS.sat.ext (hC w' hw)).cell _ _ _ h3
theorem pH{c x y:Operand}{v:XV}{p:List Prop}{E:List Ck}(h:WH L W c x y=some (v,p,E))(hE:A6 E):PV P C L.d W.d ⟨d,.pick c x y,ty,ps,af,gd⟩ v.d:=by
 unfold WH at h
 split at h
 ·rename_i vc E1 h1
  split at h
  ·rename_i pc h2
   have:=L8 h2;subst this
   split at h
   ·split at h
    ·rename_i vx E2 h3
     split at h
     ·rename_i q h4
      have:=L8 h4;subst this
      simp only[Option.some.injEq,Prod.mk.injEq]at h;obtain⟨rfl,rfl,rfl⟩:=h
      refine .and (AT h1 hE.app.1) ?_
      have:=AT h3 hE.app.2
      rw[Gd.cJ]at this;exact this
     ·cases h
    ·cases h
   ·split at h
    ·split at h
     ·rename_i vx E2 h3
      split at h
      ·rename_i q h4
       have:=L8 h4;subst this
       simp only[Option.some.injEq,Prod.mk.injEq]at h;obtain⟨rfl,rfl,rfl⟩:=h
       refine .or (AT h1 hE.app.1) ?_
       have:=AT h3 hE.app.2
       rw[Gd.cJ]at this;exact this
      ·cases h
     ·cases h
    ·cases h
  ·cases h
 ·cases h
theorem pI{s t:TypeId}{x:Operand}{a v:XV}{p:List Prop}(hT:DI P T)(h:WI T s t a=some (v,p))(hx:A5 L.d W.d x a.d)(hp:W.d=true->GF p):PV P C L.d W.d ⟨d,.convert s t x,ty,ps,af,gd⟩ v.d:=by
 unfold WI at h
 split at h
 ·rename_i k n h1
  have:=MF h1;subst this
  split at h
  ·rename_i k1 _ _ h2
   split at h
   ·rename_i k2 _ _ h3
    split at h
    ·rename_i h4
     have:=T4 h4;subst this
     simp only[Option.some.injEq,Prod.mk.injEq]at h;obtain⟨rfl,rfl⟩:=h
     exact .BU hx (hT _ _ h2).kind (hT _ _ h3).kind λ hW=>Q0 (hp hW)
    ·cases h
   ·cases h
  ·cases h
 ·cases h
theorem pJ{t:TypeId}{x:Operand}{a v:XV}{E:List Ck}(hT:DI P T)(hF:B7 M F)(hS:St w0 M0 w M (HD H++Hr))(h:WK T F H t a=some (v,E))(hE:A6 E)(hx:A5 L.d W.d x a.d):PV P C L.d W.d ⟨d,.call ⟨.builtin .len,#[x],#[t]⟩,ty,ps,af,gd⟩ v.d:=by
 unfold WK at h
 split at h
 ·rename_i h1
  split at h
  ·rename_i l h2
   have:=WJ h2;subst this
   simp only[Option.some.injEq,Prod.mk.injEq]at h;obtain⟨rfl,rfl⟩:=h
   exact .DD hx (hT _ _ h1).kind
  ·cases h
 ·rename_i e esz _ _ h1
  split at h
  ·rename_i k x'
   split at h
   ·rename_i α inh kv sz l f g' hg' h2
    simp only[Option.some.injEq,Prod.mk.injEq]at h;obtain⟨rfl,rfl⟩:=h
    have hv:x'=kv:=hE _ (.head _)
    subst hv
    obtain⟨M2,Hs2,hS2,hK⟩:=Q3 hF hS h2
    exact .NO hK.sl hx ⟨_,(hT _ _ h1).kind.1⟩
   ·cases h
  ·cases h
 ·cases h
theorem pK{t:TypeId}{x y:Operand}{a b v:XV}{p:List Prop}{E:List Ck}(hT:DI P T)(hF:B7 M F)(hS:St w0 M0 w M (HD H++Hr))(h:WL T F H t a b=some (v,p,E))(hE:A6 E)(hx:A5 L.d W.d x a.d)(hy:A5 L.d W.d y b.d)(hp:W.d=true->GF p):PV P C L.d W.d ⟨d,.indexAddr t x y,ty,ps,af,gd⟩ v.d:=by
 unfold WL at h
 split at h
 ·rename_i k x'
  split at h
  ·rename_i e esz _ _ h1
   split at h
   ·rename_i kk i h2
    have:=MF h2;subst this
    split at h
    ·rename_i α inh kv sz l f g' hg' h3
     simp only[Option.some.injEq,Prod.mk.injEq]at h;obtain⟨rfl,rfl,rfl⟩:=h
     have hv:x'=kv:=hE _ (.head _)
     have hz:esz=sz:=hE _ (.tail _ (.head _))
     subst hv;subst hz
     obtain⟨M2,Hs2,hS2,hK⟩:=Q3 hF hS h3
     exact .SO hK.sl hx hy (hT _ _ h1).kind.1 (hT _ _ h1).kind.2 λ hW=>(hp hW).1
    ·cases h
   ·cases h
  ·cases h
 ·cases h
theorem pL{t:TypeId}{x:Operand}{a v:XV}{f:Nat}(hT:DI P T)(h:WM T t a f=some v)(hx:A5 L.d W.d x a.d):PV P C L.d W.d ⟨d,.fieldAddr t x f,ty,ps,af,gd⟩ v.d:=by
 unfold WM at h
 split at h
 ·rename_i fs _ _ _ h1
  split at h
  ·rename_i off n g h2
   rw[FU]at h2
   have h3:=((hT _ _ h1).kind.2 f off n g h2).1
   split at h
   ·cases h;exact .FQ hx λ w=>by rw[h3];rw[Nat.add_assoc]
   ·cases h;exact .FQ hx λ w=>h3 _ _ w
   ·cases h
  ·cases h
 ·cases h
theorem pM{t:TypeId}{x:Operand}{a v:XV}{f:Nat}(hT:DI P T)(h:WO T t a f=some v)(hx:A5 L.d W.d x a.d):PV P C L.d W.d ⟨d,.field t x f,ty,ps,af,gd⟩ v.d:=by
 unfold WO at h
 split at h
 ·rename_i fs _ sz _ h1
  split at h
  ·rename_i off n g h2
   rw[FU]at h2
   have h3:=((hT _ _ h1).kind.2 f off n g h2).2
   split at h
   ·rename_i cs
    split at h
    ·rename_i hl
     have hl':(cs.map XV.d0).length=sz:=by rw[List.length_map];exact Nat.eq_of_beq_eq_true hl
     split at h
     ·split at h
      ·rename_i r hr
       cases h
       obtain⟨e1,e2,e3⟩:=PZ _ _ _ _ hr
       refine .field hx λ w=>?_
       show(Instr.field t (.agg (cs.map XV.d0).toArray) f).run P w=_
       rw[((h3 _ w hl').2)]
       subst e1
       simp[XV.d,XV.d1,List.map_take,List.map_drop]
      ·cases h
     ·split at h
      ·rename_i c hc
       split at h
       ·rename_i hi
        cases h
        rw[FU]at hc
        refine .field hx λ w=>?_
        show(Instr.field t (.agg (cs.map XV.d0).toArray) f).run P w=_
        rw[((h3 _ w hl').2)]
        simp[List.getD,hc,cL hi]
       ·cases h
      ·cases h
    ·cases h
   ·cases h
  ·cases h
 ·cases h
theorem cM{t:TypeId}{x:Operand}{a v:XV}{p:List Prop}{E:List Ck}(hT:DI P T)(hF:B7 M F)(hS:St w0 M0 w M (HD H++Hr))(hC: ∀w',C w'->Ext w w')(h:T5 T F H t a=some (v,p,E))(hE:A6 E)(hx:A5 L.d W.d x a.d)(hp:W.d=true->GF p):PV P C L.d W.d ⟨d,.load t x,ty,ps,af,gd⟩ v.d:=by
 unfold T5 at h
 split at h
 ·rename_i tk n g h1
  have ha:=(hT _ _ h1).agg
  have hs:=(hT _ _ h1).size
  dsimp only at ha hs
  split at h
  ·rename_i k x' sz i j
   split at h
   ·rename_i α inh kv ksz l f g' hg' h2
    obtain⟨M2,Hs2,hS2,hK⟩:=Q3 hF hS h2
    have hK1:Sl M2 ksz l.length kv (l.flatMap f):=hK.sl
    have hK2: ∀x,(f x).length=ksz:=hK.sz
    split at h
    ·split at h
     ·rename_i c hc
      simp only[Option.some.injEq,Prod.mk.injEq]at h;obtain⟨rfl,rfl,rfl⟩:=h
      have hv:x'=kv:=hE _ (.head _)
      have hz:sz=ksz:=hE _ (.tail _ (.head _))
      subst hv;subst hz
      rw[FU]at hc
      have hj:j<sz:=by
       have:=(List.getElem?_eq_some_iff.1 hc).1
       rwa [hK2]at this
      exact .SL (f:=f) (i:=i) (j:=j) hS2 hC hK1 hK2 hx ha (λ hW=>(hp hW).1) (by simpa[Nat.blt_eq]using hj) hc
     ·cases h
    ·split at h
     ·rename_i r hr
      split at h
      ·rename_i r' hr'
       simp only[Option.some.injEq,Prod.mk.injEq]at h;obtain⟨rfl,rfl,rfl⟩:=h
       have hv:x'=kv:=hE _ (.head _)
       have hz:sz=ksz:=hE _ (.tail _ (.head _))
       subst hv;subst hz
       have e1:=T3 _ _ hr'
       obtain⟨e2,e3,e4⟩:=PZ _ _ _ _ hr
       show PV P C L.d W.d _ (.agg (r'.map XV.d0).toArray)
       rw[e1,e2]
       refine .pG (f:=f) (i:=i) (j:=j) (n:=n) hS2 hC hK1 hK2 hx ha hs (λ hW=>(hp hW).1) (by rw[hK2]at e4;exact e4)
      ·cases h
     ·cases h
   ·cases h
  ·rename_i k b o
   split at h
   ·rename_i b' cs t' h2
    obtain⟨i,hi,_⟩:=GW (Hr:=Hr) h2
    split at h
    ·split at h
     ·rename_i c hc
      split at h
      ·rename_i hcell
       simp only[Option.some.injEq,Prod.mk.injEq]at h;obtain⟨rfl,rfl,rfl⟩:=h
       have hb:b=b':=hE _ (.head _)
       subst hb
       rw[FU]at hc
       rw[<-cL hcell]
       exact .D8 hS hC hi hx ha (by simp[hc])
      ·cases h
     ·cases h
    ·split at h
     ·rename_i r hr
      simp only[Option.some.injEq,Prod.mk.injEq]at h;obtain⟨rfl,rfl,rfl⟩:=h
      have hb:b=b':=hE _ (.head _)
      subst hb
      obtain⟨e2,e3,e4⟩:=PZ _ _ _ _ hr
      exact .SK hS hC hi hx ha hs (by rw[List.length_map];exact e3) (by rw[e2];simp[List.map_take,List.map_drop])
     ·cases h
   ·cases h
  ·cases h
 ·cases h
theorem pN{t:TypeId}{x:Operand}{lo hi:Option Operand}{v:XV}{p:List Prop}{E:List Ck}(hT:DI P T)(h:L3 T L W t x lo hi=some (v,p,E))(hE:A6 E)(hp:W.d=true->GF p):PV P C L.d W.d ⟨d,.slice t x lo hi none,ty,ps,af,gd⟩ v.d:=by
 unfold L3 at h
 split at h
 ·rename_i h0
  have ht:=(hT _ _ h0).kind
  split at h
  ·rename_i vx E0 h1
   split at h
   ·rename_i a h2
    have:=WJ h2;subst this
    split at h
    ·rename_i y z
     split at h
     ·rename_i vy E1 h3
      split at h
      ·rename_i vz E2 h4
       split at h
       ·rename_i k i h5
        split at h
        ·rename_i k' j h6
         have:=MF h5;subst this
         have:=MF h6;subst this
         simp only[Option.some.injEq,Prod.mk.injEq]at h;obtain⟨rfl,rfl,rfl⟩:=h
         exact .L3 (AT h1 hE.app.1) (AT h3 hE.app.2.app.1) (AT h4 hE.app.2.app.2) ht λ hW=>(hp hW).1
        ·cases h
       ·cases h
      ·cases h
     ·cases h
    ·rename_i y
     split at h
     ·rename_i vy E1 h3
      split at h
      ·rename_i k i h5
       have:=MF h5;subst this
       simp only[Option.some.injEq,Prod.mk.injEq]at h;obtain⟨rfl,rfl,rfl⟩:=h
       exact .JJ (AT h1 hE.app.1) (AT h3 hE.app.2) ht λ hW=>(hp hW).1
      ·cases h
     ·cases h
    ·rename_i z
     split at h
     ·rename_i vy E1 h3
      split at h
      ·rename_i k i h5
       have:=MF h5;subst this
       simp only[Option.some.injEq,Prod.mk.injEq]at h;obtain⟨rfl,rfl,rfl⟩:=h
       exact .SG (AT h1 hE.app.1) (AT h3 hE.app.2) ht λ hW=>(hp hW).1
      ·cases h
     ·cases h
    ·cases h
   ·cases h
  ·cases h
 ·cases h
theorem pO{op:BinOp}{t t':TypeId}{x y:Operand}{a b v:XV}(hT:DI P T)(h:WS T op t a b=some v)(hx:A5 L.d W.d x a.d)(hy:A5 L.d W.d y b.d):PV P C L.d W.d ⟨d,.binOp op t x y t',ty,ps,af,gd⟩ v.d:=by
 unfold WS at h
 split at h
 ·rename_i p h1
  split at h
  ·rename_i q h2
   have:=L8 h1;subst this
   have:=L8 h2;subst this
   split at h
   ·rename_i h3
    split at h
    ·cases h;exact .nT (hT _ _ h3).kind hx hy
    ·cases h;exact .nU (hT _ _ h3).kind hx hy
    ·cases h
   ·cases h
  ·cases h
 ·cases h
theorem pP{t:TypeId}{x y:Operand}{a b v:XV}{p:List Prop}(hT:DI P T)(h:E9 T t a b=some (v,p))(hx:A5 L.d W.d x a.d)(hy:A5 L.d W.d y b.d)(hp:W.d=true->GF p):PV P C L.d W.d ⟨d,.index t x y,ty,ps,af,gd⟩ v.d:=by
 unfold E9 at h
 split at h
 ·rename_i h0
  split at h
  ·rename_i s h1
   have:=WJ h1;subst this
   split at h
   ·rename_i k i h2
    have:=MF h2;subst this
    simp only[Option.some.injEq,Prod.mk.injEq]at h;obtain⟨rfl,rfl⟩:=h
    exact .E9 hx hy (hT _ _ h0).kind λ hW=>(hp hW).1
   ·cases h
  ·cases h
 ·cases h
theorem cN{M:Mem}{K:Kn}(h:K.ok M):K.v.oneCell'=true:=by
 obtain⟨p,cap,hv,_⟩:=h.sl.val
 rw[hv];rfl
theorem T7{v:Value}(h:v.oneCell'=true):v.cells.toList=[v]:=by cases v<;>first|rfl|(cases h)
theorem pQ{w0 w:World}{M0 M:Mem}{F:List (Nat×Kn)}{H:List (Nat×HX)}{Hr:List HO}(hF:B7 M F)(hS:St w0 M0 w M (HD H++Hr)){v:XV}{E:List Ck}(h:T6 F H v=some E)(hE:A6 E):v.d=v.d0/\v.d.cells.toList=[v.d0]:=by
 cases v with
 |v u=>
  simp only[T6]at h
  split at h
  ·rename_i h1;exact⟨rfl,T7 h1⟩
  ·cases h
 |sl k u=>
  simp only[T6]at h
  split at h
  ·rename_i α inh kv sz l f g' hg' h1
   simp only[Option.some.injEq]at h;subst h
   have:u=kv:=hE _ (.head _)
   refine⟨rfl,T7 ?_⟩
   show u.oneCell'=true
   obtain⟨M2,Hs2,hS2,hK⟩:=Q3 hF hS h1
   rw[this];exact cN hK
  ·cases h
 |el k x sz i j=>exact⟨rfl,rfl⟩
 |bx k b o=>exact⟨rfl,rfl⟩
 |ag cs=>cases h
 |tu vs=>cases h
theorem WV{w0 w:World}{M0 M:Mem}{F:List (Nat×Kn)}{H:List (Nat×HX)}{Hr:List HO}{L:XE}{W:Gd}{fs:List (Nat×Nat×Bool)}(hF:B7 M F)(hS:St w0 M0 w M (HD H++Hr)): ∀ {ps:List (Nat×Operand)} {cs r:List XV} {E:List Ck},NZ F H L W fs cs ps=some (r,E)->A6 E-> ∃vs,ES L.d W.d ps vs/\JO fs (cs.map XV.d0) vs=some (r.map XV.d0)
 |[],cs,r,E,h,hE=>by simp only[NZ,Option.some.injEq,Prod.mk.injEq]at h;obtain⟨rfl,rfl⟩:=h;exact⟨[],.nil,rfl⟩
 |(i,x)::ps,cs,r,E,h,hE=>by
  unfold NZ at h
  have go: ∀ {off n:Nat} {g:Bool} {v:XV} {vs cs':List XV} {E0:List Ck},nth fs i=some (off,n,g)->BI L W x=some (v,E0)->A6 E0->v.d.cells.toList=vs.map XV.d0->vs.length=n->I3 cs off vs=some cs'->
    (∃us,ES L.d W.d ps us/\JO fs (cs'.map XV.d0) us=some (r.map XV.d0))-> ∃us,ES L.d W.d ((i,x)::ps) us/\JO fs (cs.map XV.d0) us=some (r.map XV.d0):=by
   intro off n g v vs cs' E0 h1 h2 hE0 h3 h4 h5 ⟨us,h6,h7⟩
   obtain⟨e,hle⟩:=put_eq _ _ _ _ h5
   refine⟨(i,v.d)::us,.cons (AT h2 hE0) h6,?_⟩
   rw[FU]at h1
   simp only[JO,h1,h3,List.length_map,h4,true_and]
   rw[if_pos (by omega)]
   rw[<-h7,e]
   congr 1
   unfold F4
   simp[List.map_take,List.map_drop]
  split at h
  ·rename_i off n g h1
   split at h
   ·rename_i v E0 h2
    split at h
    ·split at h
     ·rename_i vs
      split at h
      ·rename_i hl
       split at h
       ·rename_i cs' h5
        split at h
        ·rename_i r' E' h6
         simp only[Option.some.injEq,Prod.mk.injEq]at h;obtain⟨rfl,rfl⟩:=h
         exact go h1 h2 hE.app.1 (by simp[XV.d,XV.d1,Value.cells]) (Nat.eq_of_beq_eq_true hl) h5 (WV hF hS h6 hE.app.2)
        ·cases h
       ·cases h
      ·cases h
     ·cases h
    ·split at h
     ·rename_i E1 h3
      split at h
      ·rename_i hl
       split at h
       ·rename_i cs' h5
        split at h
        ·rename_i r' E' h6
         simp only[Option.some.injEq,Prod.mk.injEq]at h;obtain⟨rfl,rfl⟩:=h
         exact go h1 h2 hE.app.2.app.1 (vs:=[v]) (by rw[(pQ hF hS h3 hE.app.1).2];rfl) (Nat.eq_of_beq_eq_true hl) h5 (WV hF hS h6 hE.app.2.app.2)
        ·cases h
       ·cases h
      ·cases h
     ·cases h
   ·cases h
  ·cases h
theorem pR{P:Program}{C:World->Prop}{L:XE}{W:Gd}{d:Option Tmp}{ty:TypeId}{ps:String}{af:Array Edge}{gd:Option (Nat×Bool)}{T:TT}{F:List (Nat×Kn)}{H:List (Nat×HX)}{Hr:List HO}{w0 w:World}{M0 M:Mem}{t:TypeId}{xs:Array (Nat×Operand)}{v:XV}{p:List Prop}{E:List Ck}(hT:DI P T)(hF:B7 M F)(hS:St w0 M0 w M (HD H++Hr))(h:WT T F H L W t xs=some (v,p,E))(hE:A6 E):
  PV P C L.d W.d ⟨d,.build t xs,ty,ps,af,gd⟩ v.d:=by
 unfold WT at h
 split at h
 ·rename_i fs zs _ _ h1
  split at h
  rename_i l
  split at h
  ·rename_i cs h2
   split at h
   ·rename_i r E' h3
    simp only[Option.some.injEq,Prod.mk.injEq]at h;obtain⟨rfl,rfl,rfl⟩:=h
    obtain⟨vs,h4,h5⟩:=WV hF hS h3 hE
    rw[T3 _ _ h2]at h5
    exact PV.build h4 λ w=>(hT _ _ h1).kind.1 vs _ w h5
   ·cases h
  ·cases h
 ·cases h
theorem pS{x:Operand}{a v:XV}{i:Nat}(h:WU a i=some v)(hx:A5 L.d W.d x a.d):PV P C L.d W.d ⟨d,.extract x i,ty,ps,af,gd⟩ v.d:=by
 unfold WU at h
 split at h
 ·rename_i vs
  split at h
  ·cases h
  ·rename_i r hn
   rw[FU]at h
   have hv:v.d=v.d1:=by
    cases v with
    |tu l=>exact absurd (by rw[FU];exact h) (hn l)
    |_=>rfl
   refine .ex (vs:=(vs.map XV.d1).toArray) hx ?_
   simp[h,hv]
 ·cases h
theorem pT{t:TypeId}{x:Operand}{a v:XV}(h:WQ a=some v)(hx:A5 L.d W.d x a.d):PV P C L.d W.d ⟨d,.unOp .not t x,ty,ps,af,gd⟩ v.d:=by
 unfold WQ at h
 split at h
 ·cases h;exact .not hx
 ·cases h
theorem pU{t:TypeId}{x:Operand}{a v:XV}{p:List Prop}(h:WR a=some (v,p))(hx:A5 L.d W.d x a.d)(hp:W.d=true->GF p):PV P C L.d W.d ⟨d,.unOp .neg t x,ty,ps,af,gd⟩ v.d:=by
 unfold WR at h
 split at h
 ·simp only[Option.some.injEq,Prod.mk.injEq]at h;obtain⟨rfl,rfl⟩:=h
  exact .aU hx λ hW=>Q0 (hp hW)
 ·cases h
theorem Q4{op:Op}{v:XV}{p:List Prop}{E:List Ck}(hT:DI P T)(hF:B7 M F)(hS:St w0 M0 w M (HD H++Hr))(hC: ∀w',C w'->Ext w w')(h:O0 T F H L W op=some (v,p,E))(hE:A6 E)(hp:W.d=true->GF p):
  PV P C L.d W.d ⟨d,op,ty,ps,af,gd⟩ v.d:=by
 unfold O0 at h
 split at h
 ·split at h
  ·rename_i h1;simp only[Option.some.injEq,Prod.mk.injEq]at h;obtain⟨rfl,rfl,rfl⟩:=h;exact .move (AT h1 hE)
  ·cases h
 ·split at h
  ·rename_i h1;simp only[Option.some.injEq,Prod.mk.injEq]at h;obtain⟨rfl,rfl,rfl⟩:=h;exact .assign (AT h1 hE)
  ·cases h
 ·exact pH h hE
 ·split at h
  ·rename_i a b E1 h1
   split at h
   ·rename_i h2
    simp only[Option.some.injEq,Prod.mk.injEq]at h;obtain⟨rfl,rfl,rfl⟩:=h
    have h3:=JP h1 hE
    exact oZ h2 h3.1 h3.2 hp
   ·split at h
    ·rename_i h2
     simp only[Option.some.injEq,Prod.mk.injEq]at h;obtain⟨rfl,rfl,rfl⟩:=h
     have h3:=JP h1 hE
     exact pO hT h2 h3.1 h3.2
    ·cases h
  ·cases h
 ·split at h
  ·rename_i a E1 h1
   split at h
   ·split at h
    ·rename_i h2
     simp only[Option.some.injEq,Prod.mk.injEq]at h;obtain⟨rfl,rfl,rfl⟩:=h
     exact pT h2 (AT h1 hE)
    ·cases h
   ·split at h
    ·rename_i h2
     simp only[Option.some.injEq,Prod.mk.injEq]at h;obtain⟨rfl,rfl,rfl⟩:=h
     exact pU h2 (AT h1 hE) hp
    ·cases h
   ·cases h
  ·cases h
 ·split at h
  ·rename_i a E1 h1
   split at h
   ·rename_i h2
    simp only[Option.some.injEq,Prod.mk.injEq]at h;obtain⟨rfl,rfl,rfl⟩:=h
    exact pI hT h2 (AT h1 hE) hp
   ·cases h
  ·cases h
 ·exact pN hT h hE hp
 ·split at h
  ·rename_i a E1 h1
   split at h
   ·rename_i h2
    simp only[Option.some.injEq,Prod.mk.injEq]at h;obtain⟨rfl,rfl,rfl⟩:=h
    exact pL hT h2 (AT h1 hE)
   ·cases h
  ·cases h
 ·split at h
  ·rename_i a E1 h1
   split at h
   ·rename_i h2
    simp only[Option.some.injEq,Prod.mk.injEq]at h;obtain⟨rfl,rfl,rfl⟩:=h
    exact pM hT h2 (AT h1 hE)
   ·cases h
  ·cases h
 ·split at h
  ·rename_i a b E1 h1
   split at h
   ·rename_i h2
    simp only[Option.some.injEq,Prod.mk.injEq]at h;obtain⟨rfl,rfl,rfl⟩:=h
    have h3:=JP h1 hE.app.1
    exact pK hT hF hS h2 hE.app.2 h3.1 h3.2 hp
   ·cases h
  ·cases h
 ·split at h
  ·rename_i a b E1 h1
   split at h
   ·rename_i h2
    simp only[Option.some.injEq,Prod.mk.injEq]at h;obtain⟨rfl,rfl,rfl⟩:=h
    have h3:=JP h1 hE
    exact pP hT h2 h3.1 h3.2 hp
   ·cases h
  ·cases h
 ·split at h
  ·rename_i a E1 h1
   split at h
   ·rename_i h2
    simp only[Option.some.injEq,Prod.mk.injEq]at h;obtain⟨rfl,rfl,rfl⟩:=h
    exact cM hT hF hS hC h2 hE.app.2 (AT h1 hE.app.1) hp
   ·cases h
  ·cases h
 ·exact pR hT hF hS h hE
 ·split at h
  ·rename_i a E1 h1
   split at h
   ·rename_i h2
    simp only[Option.some.injEq,Prod.mk.injEq]at h;obtain⟨rfl,rfl,rfl⟩:=h
    exact pS h2 (AT h1 hE)
   ·cases h
  ·cases h
 ·split at h
  ·rename_i a E1 h1
   split at h
   ·rename_i h2
    simp only[Option.some.injEq,Prod.mk.injEq]at h;obtain⟨rfl,rfl,rfl⟩:=h
    exact pJ hT hF hS h2 hE.app.2 (AT h1 hE.app.1)
   ·cases h
  ·cases h
 ·split at h
  ·rename_i a E1 h1
   split at h
   ·rename_i h2
    simp only[Option.some.injEq,Prod.mk.injEq]at h;obtain⟨rfl,rfl,rfl⟩:=h
    have h3:=AT h1 hE
    cases a<;>first|exact PV.GS h3|cases h2
   ·cases h
  ·cases h
 ·cases h
end
def Q5(P:Program)(t:TypeId):Option Bool:=
 match P.underlying t with
 |some (.struct _)=>some true
 |some (.array _ _)=>some true
 |some _=>some false
 |none=>none
def O1(P:Program)(t:TypeId):Option Nat:=
 match P.info? t with
 |some i=>some i.size
 |none=>none
def pV:Bool->Bool->Bool
 |true,true=>true
 |false,false=>true
 |_,_=>false
def Q6(x:Option Nat)(n:Nat):Bool:=match x with|some m=>Nat.beq m n|none=>false
def T8(x:Option Bool)(n:Bool):Bool:=match x with|some m=>pV m n|none=>false
theorem T9{x:Option Nat}{n:Nat}(h:Q6 x n=true):x=some n:=by
 unfold Q6 at h;split at h
 ·rw[Nat.eq_of_beq_eq_true h]
 ·cases h
theorem cO{x:Option Bool}{n:Bool}(h:T8 x n=true):x=some n:=by
 unfold T8 at h;split at h
 ·rename_i m;cases m<;>cases n<;>first|rfl|cases h
 ·cases h
def IT(P:Program)(sz:Nat):List Field->List (Nat×Nat×Bool)->Bool
 |f::fl,(off,n,g)::fs=>Nat.beq f.offset off&&Q6 (O1 P f.type) n&&T8 (Q5 P f.type) g&&Nat.blt 0 n&&Nat.ble (off+n) sz&&IT P sz fl fs
 |[],[]=>true
 |_,_=>false
def WW:Value->Value->Bool
 | .bool false,.bool false=>true
 | .int k a,.int k' b=>match Q1 k k',a,b with
  |true,.ofNat 0,.ofNat 0=>true
  |_,_,_=>false
 | .string ⟨⟨[]⟩⟩,.string ⟨⟨[]⟩⟩=>true
 | .slice none 0 0,.slice none 0 0=>true
 | .pointer none,.pointer none=>true
 | .map none,.map none=>true
 | .nilFunc,.nilFunc=>true
 | .nilIface,.nilIface=>true
 |_,_=>false
theorem pW{a b:Value}(h:WW a b=true):a=b:=by
 unfold WW at h
 split at h<;>first|rfl|(cases h)|skip
 split at h
 ·rename_i hk;rw[T4 hk]
 ·cases h
def O3:List Value->List Value->Bool
 |[],[]=>true
 |a::x,b::y=>WW a b&&O3 x y
 |_,_=>false
theorem cP: ∀ {x y:List Value},O3 x y=true->x=y
 |[],[],_=>rfl
 |a::x,b::y,h=>by simp only[O3,Bool.and_eq_true]at h;rw[pW h.1,cP h.2]
 |[],_::_,h=>by simp[O3]at h
 |_::_,[],h=>by simp[O3]at h
def WX(P:Program)(t:TypeId)(zs:List Value):Bool:=
 match P.info? t with
 |some i=>match i.zero with
  |some z=>O3 z.cells.toList zs
  |none=>false
 |none=>false
def WY(P:Program)(t:TypeId)(d:TD):Bool:=
 Q6 (O1 P t) d.sz&&T8 (Q5 P t) d.agg&&match d.k with
  | .str=>match P.underlying t with|some .string=>true|_=>false
  | .bool=>match P.underlying t with|some .bool=>true|_=>false
  | .int k=>match P.underlying t with|some (.int k')=>Q1 k' k|_=>false
  | .row e esz=>match P.underlying t with|some (.slice e')=>Nat.beq e' e&&Q6 (O1 P e) esz|_=>false
  | .st fs zs=>match P.underlying t with|some (.struct fl)=>IT P d.sz fl.toList fs&&Nat.beq zs.length d.sz&&WX P t zs|_=>false
  | .any=>true
def WZ(P:Program):TT->Bool
 |[]=>true
 |(t,d)::T=>WY P t d&&WZ P T
theorem Q7{P:Program}{t:TypeId}{n:Nat}(h:O1 P t=some n)(w:World):(sizeOf t).run P w= .ok n w:=by
 unfold O1 at h
 split at h
 ·rename_i i hi
  cases h
  simp[sizeOf,typeInfo,hi]
 ·cases h
theorem X1{P:Program}{t:TypeId}{g:Bool}(h:Q5 P t=some g)(w:World):(isAgg t).run P w= .ok g w:=by
 unfold Q5 at h
 split at h
 ·rename_i hu;cases h;simp[isAgg,run_underlying hu]
 ·rename_i hu;cases h;simp[isAgg,run_underlying hu]
 ·rename_i d h1 h2 hu
  cases h
  simp only[isAgg,Sem.run_bind,run_underlying hu,Result.andThen_ok]
  cases d<;>first|rfl|(exact absurd rfl (h1 _))|(exact absurd rfl (h2 _ _))
 ·cases h
theorem cQ{P:Program}{sz:Nat}: ∀ {fl:List Field} {fs:List (Nat×Nat×Bool)},IT P sz fl fs=true-> ∀(i off n:Nat) (g:Bool),fs[i]? =some (off,n,g)-> ∃f:Field,fl[i]? =some f/\f.offset=off/\O1 P f.type=some n/\Q5 P f.type=some g/\0<n/\off+n<=sz
 |[],[],_,i,off,n,g,hi=>by simp at hi
 |f::fl,(off',n',g')::fs,h,i,off,n,g,hi=>by
  simp only[IT,Bool.and_eq_true]at h
  obtain⟨⟨⟨⟨⟨h1,h2⟩,h3⟩,h4⟩,h5⟩,h6⟩:=h
  cases i with
  |zero=>
   simp only[List.getElem?_cons_zero,Option.some.injEq,Prod.mk.injEq]at hi
   obtain⟨rfl,rfl,rfl⟩:=hi
   exact⟨f,rfl,Nat.eq_of_beq_eq_true h1,T9 h2,cO h3,by simpa[Nat.blt_eq]using h4,Nat.le_of_ble_eq_true h5⟩
  |succ i=>
   simp only[List.getElem?_cons_succ]at hi ⊢
   exact cQ h6 i off n g hi
 |[],_::_,h,_,_,_,_,_=>by simp[IT]at h
 |_::_,[],h,_,_,_,_,_=>by simp[IT]at h
theorem cS{P:Program}{sz:Nat}(w:World): ∀ {fl:List Field} {fs:List (Nat×Nat×Bool)},IT P sz fl fs=true->(fl.mapM λ f=>(do pure (f.offset,<-sizeOf f.type):Sem (Nat×Nat))).run P w= .ok (fs.map λ x=>(x.1,x.2.1)) w
 |[],[],_=>rfl
 |f::fl,(off',n',g')::fs,h=>by
  simp only[IT,Bool.and_eq_true]at h
  obtain⟨⟨⟨⟨⟨h1,h2⟩,h3⟩,h4⟩,h5⟩,h6⟩:=h
  have ih:=cS w h6
  have:=Nat.eq_of_beq_eq_true h1;subst this
  simp only[List.mapM_cons,Sem.run_bind,Q7 (T9 h2),Result.andThen_ok,Sem.run_pure,ih,List.map_cons]
 |[],_::_,h=>by simp[IT]at h
 |_::_,[],h=>by simp[IT]at h
theorem cT: ∀(vs:List Value) (j off:Nat) (cs:Array Value),off+j+vs.length<=cs.size->((vs.zipIdx j).foldl (λ cs x=>cs.setIfInBounds (off+x.2) x.1) cs).toList=cs.toList.take (off+j)++vs++cs.toList.drop (off+j+vs.length)
 |[],j,off,cs,_=>by simp
 |v::vs,j,off,cs,h=>by
  rw[List.zipIdx_cons,List.foldl_cons,cT vs (j+1) off _ (by simp at h ⊢;omega)]
  simp only[List.length_cons]at h ⊢
  have hl:off+j<cs.toList.length:=by simp;omega
  have hA:(cs.toList.take (off+j)).length=off+j:=by simp;omega
  simp only[Array.toList_setIfInBounds]
  rw[List.set_eq_take_append_cons_drop,if_pos hl]
  have t1:((cs.toList.take (off+j))++v::cs.toList.drop (off+j+1)).take (off+(j+1))=cs.toList.take (off+j)++[v]:=by
   rw[List.take_append,hA,List.take_of_length_le (by omega),show off+(j+1)-(off+j)=1 by omega];rfl
  have t2:((cs.toList.take (off+j))++v::cs.toList.drop (off+j+1)).drop (off+(j+1)+vs.length)=cs.toList.drop (off+j+(vs.length+1)):=by
   rw[List.drop_append,hA,List.drop_of_length_le (by omega),show off+(j+1)+vs.length-(off+j)=vs.length+1 by omega,List.drop_succ_cons,List.drop_drop,List.nil_append]
   congr 1;omega
  rw[t1,t2];simp
theorem cU{fs:List (Nat×Nat×Bool)}: ∀ {ps:List (Nat×Value)} {cs r:List Value},JO fs cs ps=some r->Instr.fill ((fs.map λ x=>(x.1,x.2.1)).toArray[·]?) cs.toArray ps=some r.toArray
 |[],cs,r,h=>by simp only[JO,Option.some.injEq]at h;subst h;rfl
 |(i,v)::ps,cs,r,h=>by
  unfold JO at h
  split at h
  ·rename_i off n g hi
   split at h
   ·rename_i hc
    have ih:=cU h
    unfold Instr.fill
    have hp:(fs.map λ x=>(x.1,x.2.1)).toArray[i]? =some (off,n):=by simp[hi]
    have hsz:v.cells.size=n:=by rw[<-hc.1];simp
    simp only[hp,hsz,ne_eq,not_true_eq_false,decide_false,Bool.false_or,List.size_toArray]
    have hcond:(decide (n≠n)||decide (off+n>cs.length))=true↔False:=by simp;omega
    have e:(v.cells.zipIdx.foldl (λ cs x=>cs.setIfInBounds (off+x.2) x.1) cs.toArray)=(F4 cs off v.cells.toList).toArray:=by
     have:=cT v.cells.toList 0 off cs.toArray (by rw[hc.1];simp;omega)
     apply Array.ext'
     rw[<-Array.foldl_toList,Array.toList_zipIdx,this]
     simp[F4]
    have hle: ¬off+n>cs.length:=by omega
    simp only[hle,if_false]
    rw[<-ih,<-e]
    simp
   ·cases h
  ·cases h
theorem pX{P:Program}{t:TypeId}{fl:Array Field}{fs:List (Nat×Nat×Bool)}{zs:List Value}{sz:Nat}(hu:P.underlying t=some (.struct fl))(h:IT P sz fl.toList fs=true)(hzl:zs.length=sz)(hz:WX P t zs=true)(ps:List (Nat×Value))(cs:List Value)(w:World)(hf:JO fs zs ps=some cs):
  (Instr.build t ps.toArray).run P w= .ok (.agg cs.toArray) w:=by
 unfold WX at hz
 split at hz
 ·rename_i i hi
  split at hz
  ·rename_i z hz2
   have hzc:=cP hz
   have hzv:(zeroValue t).run P w= .ok z w:=by simp[zeroValue,typeInfo,hi,hz2]
   have hm:(fl.mapM λ f=>(do pure (f.offset,<-sizeOf f.type):Sem (Nat×Nat))).run P w= .ok (fs.map λ x=>(x.1,x.2.1)).toArray w:=by
    have:=cS w h
    rw[Array.mapM_eq_mapM_toList]
    refine(Sem.run_bind' P _ _ w).trans ?_
    rw[this];rfl
   have hcells:z.cells=zs.toArray:=by rw[<-hzc]
   have hfill:=cU hf
   simp only[Instr.build,Sem.run_bind,hzv,Result.andThen_ok,run_underlying hu,hm,hcells,hfill,Sem.run_pure]
  ·cases hz
 ·cases hz
theorem pY{P:Program}{t:TypeId}{d:TD}(h:WY P t d=true):d.ok P t:=by
 simp only[WY,Bool.and_eq_true]at h
 obtain⟨⟨h1,h2⟩,h3⟩:=h
 refine⟨X1 (cO h2),Q7 (T9 h1),?_⟩
 cases hk:d.k with
 |str=>rw[hk]at h3;simp only at h3;split at h3<;>first|assumption|cases h3
 |bool=>rw[hk]at h3;simp only at h3;split at h3<;>first|assumption|cases h3
 |int k=>
  rw[hk]at h3;simp only at h3
  split at h3
  ·rename_i k' hu;have:=T4 h3;subst this;exact hu
  ·cases h3
 |row e esz=>
  rw[hk]at h3;simp only at h3
  split at h3
  ·rename_i e' hu
   simp only[Bool.and_eq_true]at h3
   have:=Nat.eq_of_beq_eq_true h3.1;subst this
   exact⟨hu,Q7 (T9 h3.2)⟩
  ·cases h3
 |st fs zs=>
  rw[hk]at h3;simp only at h3
  split at h3
  ·rename_i fl hu
   simp only[Bool.and_eq_true]at h3
   obtain⟨⟨h3,hzl⟩,hz⟩:=h3
   refine⟨pX hu h3 (Nat.eq_of_beq_eq_true hzl) hz,?_⟩
   intro i off n g hi
   obtain⟨f,hf,rfl,hs,ha,h0,hle⟩:=cQ h3 i off n g hi
   have hf':fl[i]? =some f:=by simpa using hf
   refine⟨λ b o w=>?_,λ cs w hl=>⟨hle,?_⟩⟩
   ·have hn:n≠0:=by omega
    simp[Instr.fieldAt,run_underlying hu,hf',Instr.sureAddr,fieldPlace,Q7 hs,hn,HB]
   ·cases g with
    |true=>simp[Instr.field,run_underlying hu,hf',asAgg,part,X1 ha,Q7 hs]
    |false=>
     have hlt:f.offset<cs.length:=by omega
     simp[Instr.field,run_underlying hu,hf',asAgg,part,X1 ha,hlt]
  ·cases h3
 |any=>trivial
theorem cV{P:Program}: ∀ {T:TT},WZ P T=true->DI P T
 |[],_=>λ t td h=>by cases h
 |(t,d)::T,h=>by
  simp only[WZ,Bool.and_eq_true]at h
  intro t' td ht
  unfold GD at ht
  split at ht
  ·rename_i e;cases ht;have:=Nat.eq_of_beq_eq_true e;subst this;exact pY h.1
  ·exact cV h.2 t' td ht
end Go.Eng
namespace Go.Eng
open Go.RowKit
class cW (P:Program)where
 T:TT
 ok:DI P T
inductive Tg where
 |s (k:Nat)
 |b (k:Nat)
 |g
def cX:List (Nat×Tg)->Nat->Option Tg
 |[],_=>none
 |(t,d)::T,k=>match Nat.beq t k with
  |true=>some d
  |false=>cX T k
def JR(tg:List (Nat×Tg))(L:Env):List Nat->XE->List Ck->Option (XE×List Ck)
 |[],X,E=>some (X,E)
 |k::ks,X,E=>match look L k with
  |none=>JR tg L ks X E
  |some (g,v)=>match cX tg k with
   |some (.s n)=>JR tg L ks ((k,.t,.sl n v)::X) (.b true g::E)
   |some (.b n)=>match v with
    | .pointer (some ⟨b,o,none⟩)=>JR tg L ks ((k,.t,.bx n b o)::X) (.b true g::E)
    |_=>none
   |some .g=>JR tg L ks ((k,.g g,.v v)::X) E
   |none=>JR tg L ks ((k,.t,.v v)::X) (.b true g::E)
def GX(X:XE)(L:Env):Prop:= ∀k g v,B6 X k=some (g,v)->look L k=some (g.d,v.d)
theorem GX.cons {X:XE}{L:Env}(h:GX X L){k:Nat}{g:Gd}{v:XV}{g':Bool}{v':Value}(hl:look L k=some (g',v'))(hg:g.d=g')(hv:v.d=v'):GX ((k,g,v)::X) L:=by
 intro t g2 v2 ht
 unfold B6 at ht
 split at ht
 ·rename_i e;cases ht;have:=Nat.eq_of_beq_eq_true e;subst this;rw[hl,hg,hv]
 ·exact h t g2 v2 ht
theorem GX.put {X:XE}{L:Env}(h:GX X L){k:Nat}{g:Gd}{v:XV}:GX ((k,g,v)::X) ((k,g.d,v.d)::L):=by
 intro t g2 v2 ht
 unfold B6 at ht
 split at ht
 ·rename_i e;cases ht;have:=Nat.eq_of_beq_eq_true e;subst this;rw[JH]
 ·rename_i e
  have:k≠t:=λ e'=>by subst e';rw[Nat.beq_refl]at e;cases e
  rw[HZ this];exact h t g2 v2 ht
theorem TB{tg:List (Nat×Tg)}{L:Env}: ∀ {ks:List Nat} {X X':XE} {E E':List Ck},JR tg L ks X E=some (X',E')->A6 E'->(A6 E->GX X L)->GX X' L/\A6 E
 |[],X,X',E,E',h,hE,hX=>by simp only[JR,Option.some.injEq,Prod.mk.injEq]at h;obtain⟨rfl,rfl⟩:=h;exact⟨hX hE,hE⟩
 |k::ks,X,X',E,E',h,hE,hX=>by
  unfold JR at h
  split at h
  ·exact TB h hE hX
  ·rename_i g v hl
   have go: ∀(x:XV),x.d=v->JR tg L ks ((k,.t,x)::X) (.b true g::E)=some (X',E')->GX X' L/\A6 E:=by
    intro x hx h2
    have:=TB h2 hE λ hE2=>(hX λ c hc=>hE2 c (.tail _ hc)).cons hl (by have h3:g=true:=hE2 _ (.head _) U;rw[h3];rfl) hx
    exact⟨this.1,λ c hc=>this.2 c (.tail _ hc)⟩
   split at h
   ·exact go _ U h
   ·split at h
    ·exact go _ U h
    ·cases h
   ·exact TB h hE λ hE2=>(hX hE2).cons hl U U
   ·exact go _ U h
theorem GX.cY {X:XE}{L:Env}(h:GX X L){a:Act}{N:Nat}(hs:AF a N L):AF a N X.d:=
 ⟨hs.size,hs.CD,λ t g v ht=>by
  obtain⟨g',v',h1,rfl,rfl⟩:=MH ht
  exact hs.val t _ _ (h t g' v' h1)⟩
def tm:Operand->List Nat->List Nat
 | .tmp k,r=>k::r
 |_,r=>r
def cZ:Option Operand->List Nat->List Nat
 |some x,r=>tm x r
 |none,r=>r
def tmp:List (Nat×Operand)->List Nat->List Nat
 |[],r=>r
 |(_,x)::ps,r=>tm x (tmp ps r)
def pZ:Op->List Nat->List Nat
 | .move x,r=>tm x r
 | .assign x,r=>tm x r
 | .pick c x y,r=>tm c (tm x (tm y r))
 | .binOp _ _ x y _,r=>tm x (tm y r)
 | .unOp _ _ x,r=>tm x r
 | .convert _ _ x,r=>tm x r
 | .slice _ x lo hi _,r=>tm x (cZ lo (cZ hi r))
 | .fieldAddr _ x _,r=>tm x r
 | .field _ x _,r=>tm x r
 | .indexAddr _ x y,r=>tm x (tm y r)
 | .index _ x y,r=>tm x (tm y r)
 | .load _ x,r=>tm x r
 | .extract x _,r=>tm x r
 | .build _ ⟨ps⟩,r=>tmp ps r
 | .call ⟨_,⟨[x]⟩,_⟩,r=>tm x r
 |_,r=>r
def qA(all:Array Oper)(gd:Option (Nat×Bool))(r:List Nat):List Nat:=
 match gd with
 |none=>r
 |some (j,_)=>match nth all.toList j with
  |some o=>match o.dst with
   |some d=>d::r
   |none=>r
  |none=>r
def dA(all:Array Oper):Nat->List Oper->List Nat
 |n+1,o::l=>pZ o.op (qA all o.guard (dA all n l))
 |_,_=>[]
def TC:List XV->Option (List Value)
 |[]=>some []
 |x::l=>match TC l with
  |some r=>match x with
   | .v u=>some (u::r)
   | .sl _ u=>some (u::r)
   |_=>none
  |none=>none
theorem dB: ∀ {l:List XV} {r:List Value},TC l=some r->l.map XV.d0=r
 |[],r,h=>by cases h;rfl
 |x::l,r,h=>by
  unfold TC at h
  split at h
  ·rename_i r' hr
   split at h<;>first|(cases h;simp[dB hr,XV.d0])|cases h
  ·cases h
def dV:XV->Option Value
 | .v u=>some u
 | .sl _ u=>some u
 | .el _ x sz i j=>match j with
  |0=>some (.pointer (some ⟨sb x,so x+i.toNat*sz,none⟩))
  |j+1=>some (.pointer (some ⟨sb x,so x+i.toNat*sz+(j+1),none⟩))
 | .bx _ b o=>some (.pointer (some ⟨b,o,none⟩))
 | .ag cs=>match TC cs with
  |some r=>some (.agg ⟨r⟩)
  |none=>none
 | .tu _=>none
theorem qB{x:XV}{v:Value}(h:dV x=some v):x.d=v:=by
 cases x with
 |v u=>cases h;rfl
 |sl k u=>cases h;rfl
 |el k u sz i j=>cases j<;>(cases h;rfl)
 |bx k b o=>cases h;rfl
 |ag cs=>
  simp only[dV]at h
  split at h
  ·rename_i r hr;cases h;simp[XV.d,XV.d1,dB hr]
  ·cases h
 |tu vs=>cases h
def dE(
    L:Env):Nat->XE->Option Env
 |0,_=>some L
 |n+1,(k,g,v)::X=>match dE L n X with
  |some L'=>match dV v with
   |some u=>match g with
    | .t=>some ((k,true,u)::L')
    | .g b=>some ((k,b,u)::L')
   |none=>none
  |none=>none
 |_,_=>none
theorem dC{L:Env}: ∀ {n:Nat} {X:XE} {L':Env},dE L n X=some L'->(XE.d (X.take n))++L=L'
 |0,X,L',h=>by simp only[dE,Option.some.injEq]at h;subst h;rfl
 |n+1,[],L',h=>by cases h
 |n+1,(k,g,v)::X,L',h=>by
  unfold dE at h
  split at h
  ·rename_i L2 h2
   split at h
   ·rename_i u hu
    show(k,g.d,v.d)::(XE.d (X.take n)++L)=L'
    rw[dC h2,qB hu]
    cases g<;>(cases h;rfl)
   ·cases h
  ·cases h
structure RR where
 l:List Oper
 L:Env
 O:Prop
 E:List Ck
def Q8(W:Gd):List Prop->Prop->(Prop->Option RR)->Option RR
 |[],O,K=>K O
 |p::ps,O,K=>match W with
  | .t=>Q8 W ps (p/\O) K
  | .g b=>Q8 W ps ((b=false\/p)/\O) K
theorem X3{W:Gd}{K:Prop->Option RR}: ∀ {ps:List Prop} {O:Prop},∃O',Q8 W ps O K=K O'/\(O'->(W.d=true->GF ps)/\O)
 |[],O=>⟨O,rfl,λ h=>⟨λ _=>trivial,h⟩⟩
 |p::ps,O=>by
  unfold Q8
  cases W with
  |t=>
   obtain⟨O',h1,h2⟩:=X3 (W:=.t) (K:=K) (ps:=ps) (O:=p/\O)
   exact⟨O',h1,λ h=>⟨λ hW=>⟨(h2 h).2.1,(h2 h).1 hW⟩,(h2 h).2.2⟩⟩
  |g b=>
   obtain⟨O',h1,h2⟩:=X3 (W:=.g b) (K:=K) (ps:=ps) (O:=(b=false\/p)/\O)
   exact⟨O',h1,λ h=>⟨λ hW=>⟨(h2 h).2.1.resolve_left (by rw[show b=true from hW];decide),(h2 h).1 hW⟩,(h2 h).2.2⟩⟩
def X4(
     all:Array Oper) (L:XE) (gd:Option (Nat×Bool)):Option Gd:=
 match gd with
 |none=>some .t
 |some (
     j,want)=>match nth all.toList j with
  |some o=>match o.dst with
   |some d=>match B6 L d with
    |some (g,v)=>match JQ v with
     |some b=>match want with
      |true=>match g with
       | .t=>some (.g b)
       | .g a=>some (.g (a&&b))
      |false=>match g with
       | .t=>some (.g (!b))
       | .g a=>some (.g (a&& !b))
     |none=>none
    |none=>none
   |none=>none
  |none=>none
theorem qC{all:Array Oper}{L:XE}{gd:Option (Nat×Bool)}{W:Gd}(h:X4 all L gd=some W):CG all L.d gd W.d:=by
 unfold X4 at h
 split at h
 ·cases h;exact .none
 ·rename_i j want
  split at h
  ·rename_i o ho
   split at h
   ·rename_i d hd
    split at h
    ·rename_i g v hl
     split at h
     ·rename_i b hb
      have:=L8 hb;subst this
      have hl':=FT hl
      have hj:(all[j]?).bind (·.dst)=some d:=by
       rw[FU]at ho
       simp only[Array.getElem?_toList]at ho
       rw[ho];exact hd
      split at h
      ·split at h<;>cases h
       ·exact .pos hj hl'
       ·exact .GQ hj hl'
      ·split at h<;>cases h
       ·exact .neg hj hl'
       ·exact .aT hj hl'
     ·cases h
    ·cases h
   ·cases h
  ·cases h
def runs(
     T:TT) (N:Nat) (F:List (Nat×Kn)) (H:List (Nat×HX)) (all:Array Oper) (L:Env):Nat->Nat->List Oper->XE->Prop->List Ck->Option RR
 |0,i,l,X,O,E=>match dE L i X with
  |some L'=>some ⟨l,L',O,E⟩
  |none=>none
 |n+1,i,l,X,O,E=>match l with
  |⟨some d,op,ty,ps,af,gd⟩::rest=>match X4 all X gd with
   |some W=>match O0 T F H X W op with
    |some (v,p,E')=>match Nat.blt d N with
     |true=>Q8 W p O λ O'=>runs T N F H all L n (i+1) rest ((d,W,v)::X) O' (E'++E)
     |false=>none
    |none=>none
   |none=>none
  |_=>none
theorem PV.rep {P:Program}{C:World->Prop}{X:XE}{L:Env}{W:Bool}{o:Oper}{v:Value}(h:PV P C X.d W o v)(hr:GX X L):PV P C L W o v:=λ a N hs hW w hw=>h a N (hr.cY hs) hW w hw
theorem dD{P:Program}{T:TT}(hT:DI P T){N:Nat}{F:List (Nat×Kn)}{H:List (Nat×HX)}{Hr:List HO}{w0 w:World}{M0 M:Mem}{C:World->Prop}{G:List Oper->Env->Prop}{all:Array Oper}{L:Env}(hF:B7 M F)(hS:St w0 M0 w M (HD H++Hr))(hC: ∀w',C w'->Ext w w')
  (hG: ∀ {d:Nat} {op:Op} {ty:TypeId} {ps:String} {af:Array Edge} {gd:Option (Nat×Bool)} {W:Bool} {v:Value} {rest:List Oper} {L:Env},CG all L gd W->PV P C L W ⟨some d,op,ty,ps,af,gd⟩ v->Nat.blt d N=true->G rest ((d,W,v)::L)->G (⟨some d,op,ty,ps,af,gd⟩::rest) L):
  ∀ {n i:Nat} {l:List Oper} {X:XE} {O:Prop} {E:List Ck} {r:RR},runs T N F H all L n i l X O E=some r->r.O->A6 r.E->G r.l r.L->(A6 E->GX X ((XE.d (X.take i))++L))->G l ((XE.d (X.take i))++L)/\O/\A6 E
 |0,i,l,X,O,E,r,h,hO,hE,hn,hX=>by
  unfold runs at h
  split at h
  ·rename_i L' hL
   cases h
   rw[dC hL];exact⟨hn,hO,hE⟩
  ·cases h
 |n+1,i,l,X,O,E,r,h,hO,hE,hn,hX=>by
  unfold runs at h
  split at h
  ·rename_i d op ty ps af gd rest
   split at h
   ·rename_i W hW
    split at h
    ·rename_i v p E' hv
     split at h
     ·rename_i hd
      obtain⟨O',h1,h2⟩:=X3 (W:=W) (K:=λ O'=>runs T N F H all L n (i+1) rest ((d,W,v)::X) O' (E'++E)) (ps:=p) (O:=O)
      rw[h1]at h
      obtain⟨r1,r2,r3⟩:=dD hT hF hS hC hG h hO hE hn (λ hE2=>(hX (A6.app hE2).2).put)
      obtain⟨hp,hO2⟩:=h2 r2
      have hX':=hX (A6.app r3).2
      exact⟨hG (λ a N hs=>qC hW a N (hX'.cY hs)) ((Q4 hT hF hS hC hv (A6.app r3).1 hp).rep hX') hd r1,hO2,(A6.app r3).2⟩
     ·cases h
    ·cases h
   ·cases h
  ·cases h
def hx:Nat->List HO->Option (List (Nat×HX)×List HO)
 |0,l=>some ([],l)
 |n+1,x::l=>match hx n l with
  |some (H,Hr)=>match x with
   | .box b cs t=>some ((n,.box b (HF cs) t)::H,Hr)
   |y=>some ((n,.ho y)::H,Hr)
  |none=>none
 |_,_=>none
theorem dF: ∀l:List Value,(HF l).map XV.d0=l
 |[]=>rfl
 |x::l=>by simp[HF,dF l,XV.d0]
theorem X5: ∀ {n:Nat} {l:List HO} {H:List (Nat×HX)} {Hr:List HO},hx n l=some (H,Hr)->HD H++Hr=l
 |0,l,H,Hr,h=>by simp only[hx,Option.some.injEq,Prod.mk.injEq]at h;obtain⟨rfl,rfl⟩:=h;rfl
 |n+1,[],H,Hr,h=>by cases h
 |n+1,x::l,H,Hr,h=>by
  unfold hx at h
  split at h
  ·rename_i H2 Hr2 h2
   split at h
   ·simp only[Option.some.injEq,Prod.mk.injEq]at h;obtain⟨rfl,rfl⟩:=h
    show(HX.box _ _ _).d::(HD H2++Hr2)=_
    rw[X5 h2];simp[HX.d,dF]
   ·simp only[Option.some.injEq,Prod.mk.injEq]at h;obtain⟨rfl,rfl⟩:=h
    show(HX.ho _).d::(HD H2++Hr2)=_
    rw[X5 h2];rfl
  ·cases h
def MI(T:TT)(N:Nat)(F:List (Nat×Kn))(m:Nat)(Hs:List HO)(all:Array Oper)(tg:List (Nat×Tg))(n:Nat)(l:List Oper)(L:Env):Option RR:=
 match hx m Hs with
 |some (H,_)=>match JR tg L (dA all n l) [] []with
  |some (X,E)=>runs T N F H all L n 0 l X ((0:Int)=0) E
  |none=>none
 |none=>none
theorem X6{P:Program}{T:TT}(hT:DI P T){N:Nat}{F:List (Nat×Kn)}{m n:Nat}{Hs:List HO}{w0 w:World}{M0 M:Mem}{C:World->Prop}{G:List Oper->Env->Prop}{all:Array Oper}{tg:List (Nat×Tg)}{l l':List Oper}{L L':Env}{O:Prop}{E:List Ck}(hF:B7 M F)(hS:St w0 M0 w M Hs)(hC: ∀w',C w'->Ext w w')
  (hG: ∀ {d:Nat} {op:Op} {ty:TypeId} {ps:String} {af:Array Edge} {gd:Option (Nat×Bool)} {W:Bool} {v:Value} {rest:List Oper} {L:Env},CG all L gd W->PV P C L W ⟨some d,op,ty,ps,af,gd⟩ v->Nat.blt d N=true->G rest ((d,W,v)::L)->G (⟨some d,op,ty,ps,af,gd⟩::rest) L)
  (h:MI T N F m Hs all tg n l L=some ⟨l',L',O,E⟩) (hE:E.map Ck.diag=E) (hO:O) (hn:G l' L'):G l L:=by
 unfold MI at h
 split at h
 ·rename_i H Hr hH
  split at h
  ·rename_i X2 E2 h2
   have hnil:A6 []->GX [] L:=λ _ k g v h=>by cases h
   obtain⟨r1,r2,r3⟩:=dD (H:=H) (Hr:=Hr) hT hF (by rw[X5 hH];exact hS) hC hG h hO (A0 hE) hn (λ hE2=>(TB h2 hE2 hnil).1)
   exact r1
  ·cases h
 ·cases h
section
variable {P:Program} [tab:cW P] {N:Nat} {w0 w:World} {M0 M:Mem} {Q:Exit->Act->World->Prop} {all:Array Oper} {l l':List Oper} {L L':Env} {O:Prop} {E:List Ck} {F:List (Nat×Kn)} {Hs:List HO} {C:World->Prop} {post:Act->Prop}
theorem RL.x (n m:Nat)(tg:List (Nat×Tg))(hF:B7 M F)(hS:St w0 M0 w M Hs)(h:MI tab.T N F m Hs all tg n l L=some ⟨l',L',O,E⟩)(hE:E.map Ck.diag=E)(hO:O)(hn:RL P all Q N l' L' w):RL P all Q N l L w:=
 X6 (G:=λ l L=>RL P all Q N l L w) tab.ok hF hS BG (λ h1 h2 h3 h4=>RL.v h1 h2 h3 h4) h hE hO hn
theorem GG(w:World):St w nM w nM []:=St.start ⟨λ _ _ _ h=>by cases h⟩
theorem RL.o (n:Nat)(tg:List (Nat×Tg))(h:MI tab.T N [] 0 [] all tg n l L=some ⟨l',L',O,E⟩)(hE:E.map Ck.diag=E)(hO:O)(hn:RL P all Q N l' L' w):RL P all Q N l L w:=RL.x n 0 tg AA (GG w) h hE hO hn
theorem RL.p (n:Nat)(tg:List (Nat×Tg))(h:MI tab.T N [] 0 [] all tg n l L=some ⟨l',L',(0:Int)=0,E⟩)(hE:E.map Ck.diag=E)(hn:RL P all Q N l' L' w):RL P all Q N l L w:=RL.o n tg h hE U hn
theorem RQ.x (n m:Nat)(tg:List (Nat×Tg))(hF:B7 M F)(hS:St w0 M0 w M Hs)(h:MI tab.T N F m Hs all tg n l L=some ⟨l',L',O,E⟩)(hE:E.map Ck.diag=E)(hO:O)(hn:RQ P all (λ w'=>Ext w w') N post l' L'):RQ P all (λ w'=>Ext w w') N post l L:=
 X6 (G:=λ l L=>RQ P all (λ w'=>Ext w w') N post l L) tab.ok hF hS (λ _ h=>h) (λ h1 h2 h3 h4=>RQ.v h1 h2 h3 h4) h hE hO hn
theorem RS.x {w1:World}(n m:Nat)(tg:List (Nat×Tg))(hF:B7 M F)(hS:St w0 M0 w1 M Hs)(h:MI tab.T N F m Hs all tg n l L=some ⟨l',L',O,E⟩)(hE:E.map Ck.diag=E)(hO:O)(hn:RS P all w1 N post l' L'):RS P all w1 N post l L:=
 X6 (G:=λ l L=>RS P all w1 N post l L) tab.ok hF hS BG (λ h1 h2 h3 h4=>RS.v h1 h2 h3 h4) h hE hO hn
end
end Go.Eng
