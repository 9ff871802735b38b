/- Lemmas for the card. -/
import Derived.Test.YtmjpjbmeamnfpaaGreatDoorZf4
set_option linter.unusedVariables false
set_option linter.unusedSimpArgs false
namespace Go.Eng
open Go.RowKit
def OH(F:List (Nat×Kn))(H:List (Nat×HX))(k:Nat):Option Kn:=
 match KW F k with
 |some K=>some K
 |none=>match GL H k with
  |some (.pv _ (@Kn.mk α inh v sz l f g' hg') _)=>some (@kn α inh v sz l f)
  |_=>none
def KX(L:XE)(W:Gd)(x y:Operand):Option (XV×XV×List Ck):=
 match BZ L W x with
 |some (a,E)=>match BZ L W y with
  |some (b,E')=>some (a,b,E++E')
  |none=>none
 |none=>none
theorem M6{L:XE}{W:Gd}{x y:Operand}{a b:XV}{E:List Ck}(h:KX L W x y=some (a,b,E))(hE:AD E):A8 L.d W.d x a.d/\A8 L.d W.d y b.d:=by
 unfold KX at h
 split at h
 ·rename_i a' E1 h1
  split at h
  ·rename_i b' E2 h2
   simp only[Option.some.injEq,Prod.mk.injEq]at h;obtain⟨rfl,rfl,rfl⟩:=h
   exact⟨AN h1 hE.app.1,AN h2 hE.app.2⟩
  ·cases h
 ·cases h
def Gd.and (W:Gd)(b:Bool):Gd:=match W with
 | .t=>.g b
 | .g a=>.g (a&&b)
theorem Gd.iH (W:Gd)(b:Bool):(W.and b).d=(W.d&&b):=by cases W<;>simp[Gd.and,Gd.d]
def MA:XV->Option Bool
 | .v (.bool b)=>some b
 |_=>none
theorem OI{v:XV}{b:Bool}(h:MA v=some b):v= .v (.bool b):=by unfold MA at h;split at h<;>simp_all
def N9:XV->Option (IntKind×Int)
 | .v (.int k b)=>some (k,b)
 |_=>none
theorem PF{v:XV}{k:IntKind}{b:Int}(h:N9 v=some (k,b)):v= .v (.int k b):=by unfold N9 at h;split at h<;>simp_all
def ZC(L:XE)(W:Gd)(c x y:Operand):R4:=
 match BZ L W c with
 |some (
     vc,E)=>match MA vc with
  |some p=>match y with
   | .const (.bool false)=>match BZ L (W.and p) x with
    |some (vx,E')=>match MA vx with
     |some q=>some (.v (.bool (p&&q)),[],E++E')
     |none=>none
    |none=>none
   |_=>match x with
    | .const (.bool true)=>match BZ L (W.and (!p)) y with
     |some (vy,E')=>match MA vy with
      |some q=>some (.v (.bool (p||q)),[],E++E')
      |none=>none
     |none=>none
    |_=>none
  |none=>none
 |none=>none
def ZD(T:TT)(s t:TypeId)(a:XV):Option (XV×List Prop):=
 match N9 a with
 |some (k,n)=>match HY T s with
  |some ⟨.int k1,_,_⟩=>match HY T t with
   |some ⟨.int k2,_,_⟩=>match SY k k1 with
    |true=>some (.v (.int k2 n),PE k2 n)
    |false=>none
   |_=>none
  |_=>none
 |none=>none
def SZ:XV->Option A1
 | .v (.string ⟨⟨a⟩⟩)=>some a
 |_=>none
theorem ZE{v:XV}{a:A1}(h:SZ v=some a):v= .v (str a):=by unfold SZ at h;split at h<;>simp_all
def ZF(T:TT)(F:List (Nat×Kn))(H:List (Nat×HX))(t:TypeId)(a:XV):Option (XV×List Ck):=
 match HY T t with
 |some ⟨.str,_,_⟩=>match SZ a with
  |some l=>some (.v (i64 (len l)),[])
  |none=>none
 |some ⟨.row e esz,_,_⟩=>match a with
  | .sl k x=>match OH F H k with
   |some (@Kn.mk α inh kv sz l f g' hg')=>some (.v (i64 (len l)),[.v x kv])
   |none=>none
  |_=>none
 |_=>none
def ZG(T:TT)(F:List (Nat×Kn))(H:List (Nat×HX))(t:TypeId)(a b:XV):R4:=
 match a with
 | .sl k x=>match HY T t with
  |some ⟨.row e esz,_,_⟩=>match N9 b with
   |some (_,i)=>match OH F H k with
    |some (@Kn.mk α inh kv sz l f g' hg')=>some (.el k x esz i 0,[0<=i/\i<len l],[.v x kv,.n esz sz])
    |none=>none
   |none=>none
  |_=>none
 |_=>none
def ZH(T:TT)(t:TypeId)(a:XV)(f:Nat):Option XV:=
 match HY T t with
 |some ⟨.st fs _,_,_⟩=>match nth fs f with
  |some (off,_,_)=>match a with
   | .el k x sz i j=>some (.el k x sz i (j+off))
   | .bx k b o=>some (.bx k b (o+off))
   |_=>none
  |none=>none
 |_=>none
def ZI:XV->Bool
 | .ag _=>false
 | .tu _=>false
 |_=>true
def ZJ(T:TT)(t:TypeId)(a:XV)(f:Nat):Option XV:=
 match HY T t with
 |some ⟨.st fs _,sz,_⟩=>match nth fs f with
  |some (
      off,n,g)=>match a with
   | .ag cs=>match Nat.beq cs.length sz with
    |true=>match g with
     |true=>match K4 cs off n with
      |some r=>some (.ag r)
      |none=>none
     |false=>match nth cs off with
      |some c=>match ZI c with
       |true=>some c
       |false=>none
      |none=>none
    |false=>none
   |_=>none
  |none=>none
 |_=>none
def VP(T:TT)(F:List (Nat×Kn))(H:List (Nat×HX))(t:TypeId)(a:XV):R4:=
 match HY T t with
 |some ⟨_,n,g⟩=>match a with
  | .el k x sz i j=>match OH F H k with
   |some (@Kn.mk α inh kv ksz l f g' hg')=>match g with
    |false=>match nth (f (@at' α inh l i)) j with
     |some c=>some (.v c,[0<=i/\i<len l],[.v x kv,.n sz ksz])
     |none=>none
    |true=>match K4 (f (@at' α inh l i)) j n with
     |some r=>match R1 r with
      |some r'=>some (.ag r',[0<=i/\i<len l],[.v x kv,.n sz ksz])
      |none=>none
     |none=>none
   |none=>none
  | .bx k b o=>match GL H k with
   |some (.box b' cs _)=>match g with
    |false=>match nth cs o with
     |some c=>match ZI c with
      |true=>some (c,[],[.n b b'])
      |false=>none
     |none=>none
    |true=>match K4 cs o n with
     |some r=>some (.ag r,[],[.n b b'])
     |none=>none
   |_=>none
  |_=>none
 |none=>none
def KM(T:TT)(L:XE)(W:Gd)(t:TypeId)(x:Operand)(lo hi:Option Operand):R4:=
 match HY T t with
 |some ⟨.str,_,_⟩=>match BZ L W x with
  |some (
      vx,E)=>match SZ vx with
   |some a=>match lo,hi with
    |some y,some z=>match BZ L W y with
     |some (vy,E1)=>match BZ L W z with
      |some (vz,E2)=>match N9 vy with
       |some (_,i)=>match N9 vz with
        |some (_,j)=>some (.v (str (Eng.sub a i j)),[0<=i/\i<=j/\j<=len a],E++(E1++E2))
        |none=>none
       |none=>none
      |none=>none
     |none=>none
    |some y,none=>match BZ L W y with
     |some (vy,E1)=>match N9 vy with
      |some (_,i)=>some (.v (str (A3 a i)),[0<=i/\i<=len a],E++E1)
      |none=>none
     |none=>none
    |none,some z=>match BZ L W z with
     |some (vz,E1)=>match N9 vz with
      |some (_,j)=>some (.v (str (Eng.sub a 0 j)),[0<=j/\j<=len a],E++E1)
      |none=>none
     |none=>none
    |none,none=>none
   |none=>none
  |none=>none
 |_=>none
def ZK:XV->Option XV
 | .v (.bool b)=>some (.v (.bool (!b)))
 |_=>none
def ZL:XV->Option (XV×List Prop)
 | .v (.int k a)=>some (.v (.int k (-a)),PE k (-a))
 |_=>none
def ZM(T:TT)(op:BinOp)(t:TypeId)(a b:XV):Option XV:=
 match MA a with
 |some p=>match MA b with
  |some q=>match HY T t with
   |some ⟨.bool,_,_⟩=>match op with
    | .eql=>some (.v (.bool (p==q)))
    | .neq=>some (.v (.bool (p != q)))
    |_=>none
   |_=>none
  |none=>none
 |none=>none
def C2(T:TT)(t:TypeId)(a b:XV):Option (XV×List Prop):=
 match HY T t with
 |some ⟨.str,_,_⟩=>match SZ a with
  |some s=>match N9 b with
   |some (_,i)=>some (.v (.int .u8 (A2 s i)),[0<=i/\i<len s])
   |none=>none
  |none=>none
 |_=>none
def cellsOf:XV->Option (List XV)
 | .ag cs=>some cs
 | .tu _=>none
 |x=>some [x]
def VQ(F:List (Nat×Kn))(H:List (Nat×HX)):XV->Option (List Ck)
 | .v u=>match u.oneCell' with
  |true=>some []
  |false=>none
 | .sl k u=>match OH F H k with
  |some (@Kn.mk α inh kv sz l f g' hg')=>some [.v u kv]
  |none=>none
 | .el _ _ _ _ _=>some []
 | .bx _ _ _=>some []
 |_=>none
def R5(
      F:List (Nat×Kn)) (H:List (Nat×HX)) (L:XE) (W:Gd) (fs:List (Nat×Nat×Bool)):List XV->List (Nat×Operand)->Option (List XV×List Ck)
 |cs,[]=>some (cs,[])
 |cs,(i,x)::ps=>match nth fs i with
  |some (
      off,n,g)=>match BZ L W x with
   |some (
       v,E)=>match g with
    |true=>match v with
     | .ag vs=>match Nat.beq vs.length n with
      |true=>match K5 cs off vs with
       |some cs'=>match R5 F H L W fs cs' ps with
        |some (r,E')=>some (r,E++E')
        |none=>none
       |none=>none
      |false=>none
     |_=>none
    |false=>match VQ F H v with
     |some E1=>match Nat.beq 1 n with
      |true=>match K5 cs off [v]with
       |some cs'=>match R5 F H L W fs cs' ps with
        |some (r,E')=>some (r,E1++(E++E'))
        |none=>none
       |none=>none
      |false=>none
     |none=>none
   |none=>none
  |none=>none
def ZN(T:TT)(F:List (Nat×Kn))(H:List (Nat×HX))(L:XE)(W:Gd)(t:TypeId)(ps:Array (Nat×Operand)):R4:=
 match HY T t with
 |some ⟨.st fs zs,_,_⟩=>match ps with
  |⟨l⟩=>match R1 zs with
   |some cs=>match R5 F H L W fs cs l with
    |some (r,E)=>some (.ag r,[],E)
    |none=>none
   |none=>none
 |_=>none
def ZO(a:XV)(i:Nat):Option XV:=
 match a with
 | .tu vs=>match nth vs i with
  |some (.tu _)=>none
  |r=>r
 |_=>none
def wC:XV->Bool
 | .bx _ _ _=>true
 | .el _ _ _ _ _=>true
 |_=>false
def R6(T:TT)(F:List (Nat×Kn))(H:List (Nat×HX))(L:XE)(W:Gd):Op->R4
 | .move x=>match BZ L W x with
  |some (v,E)=>some (v,[],E)
  |none=>none
 | .assign x=>match BZ L W x with
  |some (v,E)=>some (v,[],E)
  |none=>none
 | .pick c x y=>ZC L W c x y
 | .binOp op t x y _=>match KX L W x y with
  |some (a,b,E)=>match ZB op a b with
   |some (v,p)=>some (v,p,E)
   |none=>match ZM T op t a b with
    |some v=>some (v,[],E)
    |none=>none
  |none=>none
 | .unOp op _ x=>match BZ L W x with
  |some (a,E)=>match op with
   | .not=>match ZK a with
    |some v=>some (v,[],E)
    |none=>none
   | .neg=>match ZL a with
    |some (v,p)=>some (v,p,E)
    |none=>none
   |_=>none
  |none=>none
 | .convert s t x=>match BZ L W x with
  |some (a,E)=>match ZD T s t a with
   |some (v,p)=>some (v,p,E)
   |none=>none
  |none=>none
 | .slice t x lo hi none=>KM T L W t x lo hi
 | .fieldAddr t x f=>match BZ L W x with
  |some (a,E)=>match ZH T t a f with
   |some v=>some (v,[],E)
   |none=>none
  |none=>none
 | .field t x f=>match BZ L W x with
  |some (a,E)=>match ZJ T t a f with
   |some v=>some (v,[],E)
   |none=>none
  |none=>none
 | .indexAddr t x y=>match KX L W x y with
  |some (a,b,E)=>match ZG T F H t a b with
   |some (v,p,E')=>some (v,p,E++E')
   |none=>none
  |none=>none
 | .index t x y=>match KX L W x y with
  |some (a,b,E)=>match C2 T t a b with
   |some (v,p)=>some (v,p,E)
   |none=>none
  |none=>none
 | .load t x=>match BZ L W x with
  |some (a,E)=>match VP T F H t a with
   |some (v,p,E')=>some (v,p,E++E')
   |none=>none
  |none=>none
 | .build t ps=>ZN T F H L W t ps
 | .extract x i=>match BZ L W x with
  |some (a,E)=>match ZO a i with
   |some v=>some (v,[],E)
   |none=>none
  |none=>none
 | .call ⟨.builtin .len,⟨[x]⟩,⟨[t]⟩⟩=>match BZ L W x with
  |some (a,E)=>match ZF T F H t a with
   |some (v,E')=>some (v,[],E++E')
   |none=>none
  |none=>none
 | .nilCheck x=>match BZ L W x with
  |some (a,E)=>match wC a with
   |true=>some (a,[],E)
   |false=>none
  |none=>none
 |_=>none
section st
variable {w0 w:World} {M0 M:Mem} {Hs:List HO}
theorem St.wD (h:St w0 M0 w M Hs)(e:TypeId)(sz n:Nat)(xs:List Value)(hl:xs.length=n*sz)(hm:n<=maxLen):
  St w0 M0 (w.alloc (.cells xs.toArray e)) M (.priv e sz (.slice (some ⟨w.heap.size,0,none⟩) n n) n xs::Hs):=by
 have h1:=h.ext (Ext.alloc w (.cells xs.toArray e))
 refine⟨h1.low,h1.sat,h1.old,λ x hx=>?_,List.pairwise_cons.2 ⟨λ y hy b hb=>?_,h.apart⟩⟩
 ·rcases List.mem_cons.1 hx with rfl|hx
  ·refine⟨⟨hl,.inr ⟨w.heap.size,n,xs.toArray,rfl,h.size,heap_alloc_new _ _,Nat.le_refl _,hm,by simpa using hl,by rw[<-hl];simp⟩⟩,λ b hb o=>?_⟩
   simp only[Value.ownBlock,Option.some.injEq]at hb;subst hb
   exact h.SF (Nat.le_refl _) o
  ·exact h1.ok x hx
 ·simp only[HO.EF,Value.ownBlock,Option.some.injEq]at hb;subst hb
  intro hy'
  have:=(HO.ok.lt (h.ok y hy) hy').2
  omega
theorem St.iI (h:St w0 M0 w M Hs)(e:TypeId)(sz:Nat):St w0 M0 w M (.priv e sz (.slice none 0 0) 0 []::Hs):=
 ⟨h.low,h.sat,h.old,λ x hx=>by
  rcases List.mem_cons.1 hx with rfl|hx
  ·exact⟨World.ownsRow_nil w _ e sz,λ b hb=>(by cases hb)⟩
  ·exact h.ok x hx,List.pairwise_cons.2 ⟨λ y hy b hb=>(by cases hb),h.apart⟩⟩
theorem St.show (h:St w0 M0 w M Hs){k:Nat}{e:TypeId}{sz n:Nat}{v:Value}{xs:List Value}(hk:Hs[k]? =some (.priv e sz v n xs)):
  ∃M',St w0 M0 w M' (Hs.set k (.own e sz v n xs))/\M.le M':=by
 obtain⟨hown,hmem⟩:=h.obj hk
 let M':Mem:=λ b o=>if v.ownBlock=some b then xs[o]? else M b o
 have hne: ∀b,v.ownBlock≠some b-> ∀o,M' b o=M b o:=λ b hb o=>if_neg hb
 have heq: ∀b,v.ownBlock=some b-> ∀o,M' b o=xs[o]?:=λ b hb o=>if_pos hb
 refine⟨M',?_,λ b o u hu=>?_⟩
 ·refine h.write hk (Below.refl _ _) ⟨λ b o u hu=>?_⟩ (λ b o hb=>hne b (λ e=>by have:=(World.ownsRow.lt hown b e).1;omega) o) (λ _ _ _=>rfl) (λ b _ hb o=>hne b hb o) ⟨hown,λ b hb=>⟨λ o _=>heq b hb o,λ o ho=>by rw[heq b hb o];exact List.getElem?_eq_none ho⟩⟩ (λ _ hb=>.inl hb)
  by_cases hb:v.ownBlock=some b
  ·rw[heq b hb]at hu
   have:=hown.cells hb o u hu
   rwa [H8,Nat.zero_add]at this
  ·rw[hne b hb]at hu;exact h.sat.cell b o u hu
 ·by_cases hb:v.ownBlock=some b
  ·rw[hmem b hb o]at hu;cases hu
  ·rw[hne b hb,hu]
theorem St.told (h:St w0 M0 w M Hs){k:Nat}{e:TypeId}{sz n:Nat}{v:Value}{xs:List Value}(hk:Hs[k]? =some (.priv e sz v n xs)):St w0 M0 w (h.show hk).choose (Hs.set k (.own e sz v n xs)):=(h.show hk).choose_spec.1
theorem St.wE {P:Program}(h:St w0 M0 w M Hs){k:Nat}{t ty e:TypeId}{i:TypeInfo}{z:Value}{sz n m:Nat}{v x:Value}{xs news:List Value}(hk:Hs[k]? =some (.priv e sz v n xs))(hx:Sl M sz m x news)
  (ht:P.underlying t=some (.slice e)) (hi:P.info? e=some i) (hz:i.zero=some z) (hsize:i.size=sz) (hzs:z.cells.size=sz) (h1: ∀u∈news,u.oneCell'=true)
  (h63:n+m<=maxLen) (hbytes:(n+m)*i.bytes<=140737488355328):
  ∃v' w',(Builtin.append_ #[t,t] ty #[v,x]).run P w= .ok v' w'/\St w0 M0 w' M (Hs.set k (.priv e sz v' (n+m) (xs++news))):=by
 obtain⟨hown,hmem⟩:=h.obj hk
 obtain⟨p,cap,rfl,hnc,_,hp⟩:=hx.val
 have hx': ∃p' c,(Value.slice p m cap)= .slice p' m c/\(0<m-> ∃a,p'=some a/\ ∀j u,news[j]? =some u->w.cell? (a.add j)=some u):=by
  refine⟨p,cap,rfl,λ hm=>?_⟩
  obtain⟨b,o,hp',hc⟩:=hp hm
  refine⟨_,hp',λ j u hu=>?_⟩
  rw[H8]
  refine h.sat.cell _ _ _ ?_
  rw[hc j (List.getElem?_eq_some_iff.1 hu).1,hu]
 obtain⟨v',w',hr,hown',hlow,hheap,hpre,hblk⟩:=fC (P:=P) w w0.heap.size t ty e i z sz ht hi hz hsize hzs v n xs hown _ m news hx.len hx' h1 h63 hbytes h.size
 have hnone: ∀b,v'.ownBlock=some b-> ∀o,M b o=none:=λ b hb o=>by
  rcases hblk with h2|⟨b',h2,h3⟩
  ·exact hmem b (by rw[<-h2];exact hb) o
  ·rw[hb]at h2;cases h2;exact h.SF h3 o
 refine⟨v',w',hr,h.write hk hlow ⟨λ b o u hu=>?_⟩ (λ _ _ _=>rfl) (λ b hb hne=>hheap b hb hne) (λ _ _ _ _=>rfl) ⟨hown',hnone⟩ (λ b hb=>?_)⟩
 ·have hlt:=h.sat.lt hu
  have hne:v.ownBlock≠some b:=λ e=>by rw[hmem b e o]at hu;cases hu
  have:=h.sat.cell b o u hu
  simp only[World.cell?,hheap b hlt hne]at this ⊢;exact this
 ·rcases hblk with h2|⟨b',h2,h3⟩
  ·exact .inl (by show v.ownBlock=some b;rw[<-h2];exact hb)
  ·have hb':v'.ownBlock=some b:=hb
   rw[hb']at h2;cases h2;exact .inr h3
theorem St.wF {P:Program}(h:St w0 M0 w M Hs){k:Nat}{e:TypeId}{sz n:Nat}{v:Value}{xs us:List Value}{o:Nat}(hk:Hs[k]? =some (.priv e sz v n xs))(ho:o+us.length<=xs.length)(hu:0<us.length)(h1: ∀u∈us,u.oneCell'=true):
  ∃w',(storeCells ⟨sb v,so v+o,none⟩ us 0).run P w= .ok () w'/\St w0 M0 w' M (Hs.set k (.priv e sz v n (GH xs o us))):=by
 obtain⟨⟨hl,hv⟩,hmem⟩:=h.obj hk
 rcases hv with⟨rfl,rfl⟩|⟨g,cap,cur,rfl,hg,hh,hnc,hcm,hcs,htk⟩
 ·rw[Nat.zero_mul]at hl;omega
 ·have hxl:xs.length<=cur.size:=by rw[<-htk,List.length_take];simp;omega
  have hst:=run_storeCells_at P g o e us 0 cur w hh (by omega) h1
  refine⟨_,by simpa[sb,so]using hst,?_⟩
  have hlt:g<w.heap.size:=by
   rcases Nat.lt_or_ge g w.heap.size with h'|h'
   ·exact h'
   ·simp[Array.getElem?_eq_none h']at hh
  refine h.write hk (UO _ hg) ⟨λ b' o' u hu'=>?_⟩ (λ _ _ _=>rfl) (λ b _ hb=>P3 _ _ _ _ (λ e=>hb (by rw[e];rfl))) (λ _ _ _ _=>rfl) ⟨⟨?_,.inr ⟨g,cap,_,rfl,hg,QJ _ _ _ _ _ _ hh,hnc,hcm,?_,?_⟩⟩,λ b hb o'=>hmem b hb o'⟩ (λ _ hb=>.inl hb)
  ·have hne:b'≠g:=λ e=>by subst e;rw[hmem b' rfl o']at hu';cases hu'
   have:=h.sat.cell b' o' u hu'
   simp only[World.cell?,P3 _ _ _ _ hne]at this ⊢
   exact this
  ·unfold GH;simp only[List.length_append,List.length_take,List.length_drop];omega
  ·simp only[List.size_toArray,List.length_append,List.length_take,List.length_drop,Array.length_toList];omega
  ·unfold GH
   simp only[Nat.add_zero]
   have hA:(List.take o cur.toList).length=o:=by rw[List.length_take,Array.length_toList];omega
   rw[<-htk,List.take_take,List.drop_take,Nat.min_eq_left (by omega:o<=n*sz)]
   simp only[List.append_assoc]
   rw[List.take_append,List.take_append,hA,List.take_take,Nat.min_eq_right (by omega:o<=n*sz),List.take_of_length_le (l:=us) (by omega),Nat.sub_sub]
end st
section rl
variable {P:Program} {ops:Array Oper} {Q:Exit->Act->World->Prop} {N:Nat} {rest:List Oper} {L:Env} {w0 w:World} {M0 M:Mem} {Hs:List HO} {d:Nat} {ty:TypeId} {ps:String} {af:Array Edge}
theorem RL.wG {t e:TypeId}{n sz:Nat}{xs:List (Nat×Operand)}{vs:List (Nat×Value)}{cs:List Value}(hS:St w0 M0 w M Hs)(hx:G3 L true xs vs)(hl:cs.length=n*sz)(hm:Nat.ble n 9223372036854775807=true)
  (hr: ∀w,(Instr.buildSlice t n vs.toArray).run P w= .ok (.slice (some ⟨w.heap.size,0,none⟩) n n) (w.alloc (.cells cs.toArray e))) (hd:Nat.blt d N=true)
  (h: ∀v w',St w0 M0 w' M (.priv e sz v n cs::Hs)->RL P ops Q N rest ((d,true,v)::L) w'):RL P ops Q N (⟨some d,.buildSlice t n xs.toArray,ty,ps,af,none⟩::rest) L w:=by
 intro a hs
 refine wpList_plain U λ K hK=>?_
 have e1:xs.toArray.map (λ p=>(p.1,a.eval p.2))=vs.toArray:=by rw[List.map_toArray,G3.map hs U xs vs hx]
 have key:(execOp a.eval ⟨some d,.buildSlice t n xs.toArray,ty,ps,af,none⟩).run P w= .ok (.value (.slice (some ⟨w.heap.size,0,none⟩) n n)) (w.alloc (.cells cs.toArray e)):=by
  simp only[execOp,e1];rw[Sem.run_bind,hr w];rfl
 simp only[Oper.wp,key,Oper.upon_value]
 exact hK _ _ (h _ _ (hS.wD e sz n cs hl (by have:=Nat.le_of_ble_eq_true hm;simp only[maxLen];omega)) _ (hs.put hd true _))
theorem RL.wH {α:Type}{f:α->List Value}{l m:List α}{t e:TypeId}{s x:Operand}{i:TypeInfo}{z:Value}{k sz by':Nat}{v vx:Value}(hS:St w0 M0 w M Hs)(hk:Hs[k]? =some (.priv e sz v l.length (l.flatMap f)))(hs:A8 L true s v)(hx:A8 L true x vx)(hsl:Sl M sz m.length vx (m.flatMap f))
  (ht:P.underlying t=some (.slice e)) (hi:P.info? e=some i) (hz:i.zero=some z) (hsize:i.size=sz) (hzs:z.cells.size=sz) (h1: ∀x,∀u∈f x,u.oneCell'=true) (hby:i.bytes=by') (hb0:Nat.blt 0 by'=true)
  (hb:(len l+len m)*by'<=140737488355328) (hd:Nat.blt d N=true) {Hs':Value->List HO} (hHs: ∀v',Hs.set k (.priv e sz v' (l++m).length ((l++m).flatMap f))=Hs' v')
  (h: ∀v' w',St w0 M0 w' M (Hs' v')->RL P ops Q N rest ((d,true,v')::L) w'):RL P ops Q N (⟨some d,.call ⟨.builtin .append,#[s,x],#[t,t]⟩,ty,ps,af,none⟩::rest) L w:=by
 subst hby
 have hb0':0<i.bytes:=by simpa[Nat.blt_eq]using hb0
 unfold len at hb
 intro a hsl'
 refine wpList_plain U λ K hK=>?_
 have hb2:(l.length+m.length)*i.bytes<=140737488355328:=by
  rw[<-Int.natCast_add,<-Int.natCast_mul]at hb
  generalize (l.length+m.length)*i.bytes=q at hb ⊢
  omega
 have hle:(l.length+m.length)*1<=(l.length+m.length)*i.bytes:=Nat.mul_le_mul_left _ hb0'
 obtain⟨v',w',hr,hS'⟩:=hS.wE (P:=P) (ty:=ty) hk hsl ht hi hz hsize hzs (λ u hu=>by obtain⟨y,_,hy⟩:=List.mem_flatMap.1 hu;exact h1 y u hy) (by simp only[maxLen];omega) hb2
 have key:(execOp a.eval ⟨some d,.call ⟨.builtin .append,#[s,x],#[t,t]⟩,ty,ps,af,none⟩).run P w= .ok (.value v') w':=by
  simp only[execOp,resolve,invoke,builtin,Sem.run_bind,Sem.run_pure,Result.andThen_ok,List.map_toArray,List.map_cons,List.map_nil,hs a N hsl' U,hx a N hsl' U,hr]
 simp only[Oper.wp,key,Oper.upon_value]
 exact hK _ _ (h _ _ (by rw[<-hHs v',List.length_append,List.flatMap_append];exact hS') _ (hsl'.put hd true _))
theorem RL.wI {t e:TypeId}{x y:Operand}{k sz n m o:Nat}{v u:Value}{xs xs':List Value}(hS:St w0 M0 w M Hs)(hk:Hs[k]? =some (.priv e sz v n xs))(hx:A8 L true x (.pointer (some ⟨sb v,so v+o,none⟩)))(hy:A8 L true y u)(hs: ∀w,(sizeOf t).run P w= .ok m w)
  (hn:u.cells.toList.length=m) (hm0:Nat.blt 0 m=true) (hfit:o+m<=xs.length) (h1:(u.cells.toList.all (·.oneCell'))=true) (hxs:GH xs o u.cells.toList=xs') {Hs':List HO} (hHs:Hs.set k (.priv e sz v n xs')=Hs')
  (h: ∀w',St w0 M0 w' M Hs'->RL P ops Q N rest L w'):RL P ops Q N (⟨none,.store t x y,ty,ps,af,none⟩::rest) L w:=by
 intro a hsl
 refine wpList_plain U λ K hK=>?_
 obtain⟨w',hst,hS'⟩:=hS.wF (P:=P) (us:=u.cells.toList) (o:=o) hk (by omega) (by rw[hn];simpa[Nat.blt_eq]using hm0) (List.all_eq_true.1 h1)
 have hn':u.cells.size=m:=by rw[<-hn];simp
 have key:(Instr.storeAt t (.pointer (some ⟨sb v,so v+o,none⟩)) u).run P w= .ok () w':=by
  simp only[Instr.storeAt,Instr.sureAddr,storeVar,Sem.run_bind,Sem.run_pure,Result.andThen_ok,hs,hn',ne_eq,not_true_eq_false,if_false,hst]
 have key2:(execOp a.eval ⟨none,.store t x y,ty,ps,af,none⟩).run P w= .ok .skip w':=by
  simp only[execOp,hx a N hsl U,hy a N hsl U];rw[Sem.run_bind,key];rfl
 simp only[Oper.wp,key2,Oper.upon_skip]
 exact hK _ _ (h _ (by rw[<-hHs,<-hxs];exact hS') _ hsl)
end rl
theorem wJ{α:Type}[Inhabited α]{f:α->List Value}{sz:Nat}(hf: ∀x,(f x).length=sz)(l:List α)(i:Nat)(y:α)(off:Nat)(us:List Value)(hi:i<l.length)(hy:GH (f (l.getD i default)) off us=f y)(hoff:off+us.length<=sz):
  GH (l.flatMap f) (i*sz+off) us=(l.set i y).flatMap f:=by
 induction l generalizing i with
 |nil=>simp at hi
 |cons x l ih=>
  cases i with
  |zero=>
   have hy':GH (f x) off us=f y:=by simpa using hy
   have hx:=hf x
   simp only[List.set_cons_zero,List.flatMap_cons,Nat.zero_mul,Nat.zero_add]
   rw[<-hy']
   unfold GH
   rw[List.take_append_of_le_length (by omega),List.drop_append_of_le_length (by omega)]
   simp
  |succ i=>
   have h2:=ih i (by simpa using hi) (by simpa using hy)
   have hx:=hf x
   simp only[List.set_cons_succ,List.flatMap_cons]
   rw[<-h2]
   unfold GH
   have e1:(i+1)*sz+off=(f x).length+(i*sz+off):=by rw[hx,Nat.succ_mul];omega
   rw[e1,List.take_append,List.drop_append,List.take_of_length_le (by omega),show(f x).length+(i*sz+off)-(f x).length=i*sz+off from by omega,List.drop_eq_nil_of_le (by omega),show(f x).length+(i*sz+off)+us.length-(f x).length=i*sz+off+us.length from by omega]
   simp
theorem PG: ∀ {L:XE} {k:Nat} {g:Bool} {v:Value},look L.d k=some (g,v)-> ∃g' v',BE L k=some (g',v')/\g=g'.d/\v=v'.d
 |[],_,_,_,h=>by cases h
 |(t,g',v')::L,k,g,v,h=>by
  have h':look ((t,g'.d,v'.d)::XE.d L) k=some (g,v):=h
  unfold look at h'
  unfold BE
  split at h'<;>rename_i e<;>rw[e]
  ·cases h';exact⟨_,_,rfl,rfl,rfl⟩
  ·exact PG h'
abbrev EH(P:Program)(T:TT):Prop:= ∀t td,HY T t=some td->td.ok P t
abbrev BF(M:Mem)(F:List (Nat×Kn)):Prop:= ∀x∈F,x.2.ok M
theorem AA{M:Mem}:BF M []:=λ x hx=>by cases hx
theorem CK{M:Mem}{F:List (Nat×Kn)}{k:Nat}{K:Kn}(h:K.ok M)(hF:BF M F):BF M ((k,K)::F):=λ x hx=>by
 rcases List.mem_cons.1 hx with rfl|hx
 ·exact h
 ·exact hF x hx
theorem fc{α:Type}[Inhabited α]{M:Mem}{F:List (Nat×Kn)}(k:Nat){v:Value}{sz:Nat}{l:List α}{f:α->List Value}(h:Sl M sz l.length v (l.flatMap f))(hf: ∀x,(f x).length=sz)(hF:BF M F):BF M ((k,kn v sz l f)::F):=CK ⟨h,hf,trivial⟩ hF
theorem BF.get {M:Mem}{F:List (Nat×Kn)}(h:BF M F){k:Nat}{K:Kn}(hk:KW F k=some K):K.ok M:=by
 obtain⟨i,hi⟩:=iD hk;exact h _ hi
theorem IH{H:List (Nat×HX)}{Hr:List HO}{k:Nat}{x:HX}(hk:GL H k=some x): ∃i:Nat,(HD H++Hr)[i]? =some x.d/\ ∀y,HD (EG H k y)++Hr=(HD H++Hr).set i y.d:=by
 obtain⟨i,h1,h2⟩:=iE hk
 have hlt:i<(HD H).length:=(List.getElem?_eq_some_iff.1 h1).1
 exact⟨i,by rw[List.getElem?_append_left hlt];exact h1,λ y=>by rw[h2 y,List.set_append_left _ _ hlt]⟩
theorem R7{F:List (Nat×Kn)}{H:List (Nat×HX)}{Hr:List HO}{w0 w:World}{M0 M:Mem}{k:Nat}{K:Kn}(hF:BF M F)(hS:St w0 M0 w M (HD H++Hr))(h:OH F H k=some K): ∃M' Hs',St w0 M0 w M' Hs'/\K.ok M':=by
 unfold OH at h
 split at h
 ·rename_i h1;cases h;exact⟨M,_,hS,hF.get h1⟩
 ·split at h
  ·rename_i e α inh v sz l f g' hg' hl h1
   cases h
   obtain⟨i,hi,_⟩:=IH (Hr:=Hr) h1
   have hi':(HD H++Hr)[i]? =some (.priv e sz v l.length (l.flatMap f)):=hi
   have ht:=hS.told hi'
   refine⟨_,_,ht,⟨ht.sl (i:=i) (by rw[List.getElem?_set_self (List.getElem?_eq_some_iff.1 hi').1]),hl,trivial⟩⟩
  ·cases h
theorem iJ{c:XV}(h:ZI c=true):c.d0=c.d:=by cases c<;>first|rfl|(exact absurd h (by decide))|cases h
section
variable {P:Program} {C:World->Prop} {L:XE} {W:Gd} {d:Option Tmp} {ty:TypeId} {ps:String} {af:Array Edge} {gd:Option (Nat×Bool)} {T:TT} {F:List (Nat×Kn)} {H:List (Nat×HX)} {Hr:List HO} {w0 w:World} {M0 M:Mem}
theorem _root_.Go.Eng.PV.wK {L:Env}{W:Bool}{α:Type}[Inhabited α]{f:α->List Value}{t:TypeId}{x:Operand}{sz j n:Nat}{v:Value}{l:List α}{i:Int}{Hs:List HO}(hS:St w0 M0 w M Hs)(hC: ∀w',C w'->Ext w w')(h:Sl M sz l.length v (l.flatMap f))(hf: ∀x,(f x).length=sz)
  (hx:A8 L W x (.pointer (some ⟨sb v,so v+i.toNat*sz+j,none⟩))) (ha: ∀w,(isAgg t).run P w= .ok true w) (hs: ∀w,(sizeOf t).run P w= .ok n w) (hr:W=true->0<=i/\i<len l) (hj:j+n<=sz):PV P C L W ⟨d,.load t x,ty,ps,af,gd⟩ (.agg (((f (at' l i)).drop j).take n).toArray):=by
 have hl:(((f (at' l i)).drop j).take n).length=n:=by rw[List.length_take,List.length_drop,hf];omega
 refine .eY hx ha (λ w=>by rw[hl];exact hs w) λ hW w' hw q u hu=>?_
 obtain⟨h0,h1⟩:=hr hW
 have hq:q<n:=by have:=(List.getElem?_eq_some_iff.1 hu).1;omega
 rw[List.getElem?_take,if_pos hq,List.getElem?_drop]at hu
 obtain⟨hlt,e⟩:=EU l h0 h1
 obtain⟨cap,hv,_,_,hc⟩:=h.at (by omega)
 have h2:=UQ f sz hf l i.toNat (j+q) hlt (by omega)
 rw[<-e,hu]at h2
 have hlt2:i.toNat*sz+(j+q)<(l.flatMap f).length:=by
  rw[DQ f sz hf]
  have:=Nat.mul_le_mul_right sz (show i.toNat+1<=l.length from hlt)
  rw[Nat.add_mul]at this;omega
 have h3:=hc _ hlt2
 rw[h2]at h3
 rw[H8,show so v+i.toNat*sz+j+q=so v+(i.toNat*sz+(j+q))from by omega]
 exact(hS.sat.ext (hC w' hw)).cell _ _ _ h3
theorem wL{c x y:Operand}{v:XV}{p:List Prop}{E:List Ck}(h:ZC L W c x y=some (v,p,E))(hE:AD E):PV P C L.d W.d ⟨d,.pick c x y,ty,ps,af,gd⟩ v.d:=by
 unfold ZC at h
 split at h
 ·rename_i vc E1 h1
  split at h
  ·rename_i pc h2
   have:=OI h2;subst this
   split at h
   ·split at h
    ·rename_i vx E2 h3
     split at h
     ·rename_i q h4
      have:=OI h4;subst this
      simp only[Option.some.injEq,Prod.mk.injEq]at h;obtain⟨rfl,rfl,rfl⟩:=h
      refine .and (AN h1 hE.app.1) ?_
      have:=AN h3 hE.app.2
      rw[Gd.iH]at this;exact this
     ·cases h
    ·cases h
   ·split at h
    ·split at h
     ·rename_i vx E2 h3
      split at h
      ·rename_i q h4
       have:=OI h4;subst this
       simp only[Option.some.injEq,Prod.mk.injEq]at h;obtain⟨rfl,rfl,rfl⟩:=h
       refine .or (AN h1 hE.app.1) ?_
       have:=AN h3 hE.app.2
       rw[Gd.iH]at this;exact this
      ·cases h
     ·cases h
    ·cases h
  ·cases h
 ·cases h
theorem wM{s t:TypeId}{x:Operand}{a v:XV}{p:List Prop}(hT:EH P T)(h:ZD T s t a=some (v,p))(hx:A8 L.d W.d x a.d)(hp:W.d=true->HZ p):PV P C L.d W.d ⟨d,.convert s t x,ty,ps,af,gd⟩ v.d:=by
 unfold ZD at h
 split at h
 ·rename_i k n h1
  have:=PF h1;subst this
  split at h
  ·rename_i k1 _ _ h2
   split at h
   ·rename_i k2 _ _ h3
    split at h
    ·rename_i h4
     have:=VO h4;subst this
     simp only[Option.some.injEq,Prod.mk.injEq]at h;obtain⟨rfl,rfl⟩:=h
     exact .BD hx (hT _ _ h2).kind (hT _ _ h3).kind λ hW=>SX (hp hW)
    ·cases h
   ·cases h
  ·cases h
 ·cases h
theorem wN{t:TypeId}{x:Operand}{a v:XV}{E:List Ck}(hT:EH P T)(hF:BF M F)(hS:St w0 M0 w M (HD H++Hr))(h:ZF T F H t a=some (v,E))(hE:AD E)(hx:A8 L.d W.d x a.d):PV P C L.d W.d ⟨d,.call ⟨.builtin .len,#[x],#[t]⟩,ty,ps,af,gd⟩ v.d:=by
 unfold ZF at h
 split at h
 ·rename_i h1
  split at h
  ·rename_i l h2
   have:=ZE h2;subst this
   simp only[Option.some.injEq,Prod.mk.injEq]at h;obtain⟨rfl,rfl⟩:=h
   exact .BR hx (hT _ _ h1).kind
  ·cases h
 ·rename_i e esz _ _ h1
  split at h
  ·rename_i k x'
   split at h
   ·rename_i α inh kv sz l f g' hg' h2
    simp only[Option.some.injEq,Prod.mk.injEq]at h;obtain⟨rfl,rfl⟩:=h
    have hv:x'=kv:=hE _ (.head _)
    subst hv
    obtain⟨M2,Hs2,hS2,hK⟩:=R7 hF hS h2
    exact .QM hK.sl hx ⟨_,(hT _ _ h1).kind.1⟩
   ·cases h
  ·cases h
 ·cases h
theorem wO{t:TypeId}{x y:Operand}{a b v:XV}{p:List Prop}{E:List Ck}(hT:EH P T)(hF:BF M F)(hS:St w0 M0 w M (HD H++Hr))(h:ZG T F H t a b=some (v,p,E))(hE:AD E)(hx:A8 L.d W.d x a.d)(hy:A8 L.d W.d y b.d)(hp:W.d=true->HZ p):PV P C L.d W.d ⟨d,.indexAddr t x y,ty,ps,af,gd⟩ v.d:=by
 unfold ZG at h
 split at h
 ·rename_i k x'
  split at h
  ·rename_i e esz _ _ h1
   split at h
   ·rename_i kk i h2
    have:=PF h2;subst this
    split at h
    ·rename_i α inh kv sz l f g' hg' h3
     simp only[Option.some.injEq,Prod.mk.injEq]at h;obtain⟨rfl,rfl,rfl⟩:=h
     have hv:x'=kv:=hE _ (.head _)
     have hz:esz=sz:=hE _ (.tail _ (.head _))
     subst hv;subst hz
     obtain⟨M2,Hs2,hS2,hK⟩:=R7 hF hS h3
     exact .UU hK.sl hx hy (hT _ _ h1).kind.1 (hT _ _ h1).kind.2 λ hW=>(hp hW).1
    ·cases h
   ·cases h
  ·cases h
 ·cases h
theorem wP{t:TypeId}{x:Operand}{a v:XV}{f:Nat}(hT:EH P T)(h:ZH T t a f=some v)(hx:A8 L.d W.d x a.d):PV P C L.d W.d ⟨d,.fieldAddr t x f,ty,ps,af,gd⟩ v.d:=by
 unfold ZH at h
 split at h
 ·rename_i fs _ _ _ h1
  split at h
  ·rename_i off n g h2
   rw[HE]at h2
   have h3:=((hT _ _ h1).kind.2 f off n g h2).1
   split at h
   ·cases h;exact .BI hx λ w=>by rw[h3];rw[Nat.add_assoc]
   ·cases h;exact .BI hx λ w=>h3 _ _ w
   ·cases h
  ·cases h
 ·cases h
theorem wQ{t:TypeId}{x:Operand}{a v:XV}{f:Nat}(hT:EH P T)(h:ZJ T t a f=some v)(hx:A8 L.d W.d x a.d):PV P C L.d W.d ⟨d,.field t x f,ty,ps,af,gd⟩ v.d:=by
 unfold ZJ at h
 split at h
 ·rename_i fs _ sz _ h1
  split at h
  ·rename_i off n g h2
   rw[HE]at h2
   have h3:=((hT _ _ h1).kind.2 f off n g h2).2
   split at h
   ·rename_i cs
    split at h
    ·rename_i hl
     have hl':(cs.map XV.d0).length=sz:=by rw[List.length_map];exact Nat.eq_of_beq_eq_true hl
     split at h
     ·split at h
      ·rename_i r hr
       cases h
       obtain⟨e1,e2,e3⟩:=SW _ _ _ _ hr
       refine .field hx λ w=>?_
       show(Instr.field t (.agg (cs.map XV.d0).toArray) f).run P w=_
       rw[((h3 _ w hl').2)]
       subst e1
       simp[XV.d,XV.d1,List.map_take,List.map_drop]
      ·cases h
     ·split at h
      ·rename_i c hc
       split at h
       ·rename_i hi
        cases h
        rw[HE]at hc
        refine .field hx λ w=>?_
        show(Instr.field t (.agg (cs.map XV.d0).toArray) f).run P w=_
        rw[((h3 _ w hl').2)]
        simp[List.getD,hc,iJ hi]
       ·cases h
      ·cases h
    ·cases h
   ·cases h
  ·cases h
 ·cases h
theorem iK{t:TypeId}{x:Operand}{a v:XV}{p:List Prop}{E:List Ck}(hT:EH P T)(hF:BF M F)(hS:St w0 M0 w M (HD H++Hr))(hC: ∀w',C w'->Ext w w')(h:VP T F H t a=some (v,p,E))(hE:AD E)(hx:A8 L.d W.d x a.d)(hp:W.d=true->HZ p):PV P C L.d W.d ⟨d,.load t x,ty,ps,af,gd⟩ v.d:=by
 unfold VP at h
 split at h
 ·rename_i tk n g h1
  have ha:=(hT _ _ h1).agg
  have hs:=(hT _ _ h1).size
  dsimp only at ha hs
  split at h
  ·rename_i k x' sz i j
   split at h
   ·rename_i α inh kv ksz l f g' hg' h2
    obtain⟨M2,Hs2,hS2,hK⟩:=R7 hF hS h2
    have hK1:Sl M2 ksz l.length kv (l.flatMap f):=hK.sl
    have hK2: ∀x,(f x).length=ksz:=hK.sz
    split at h
    ·split at h
     ·rename_i c hc
      simp only[Option.some.injEq,Prod.mk.injEq]at h;obtain⟨rfl,rfl,rfl⟩:=h
      have hv:x'=kv:=hE _ (.head _)
      have hz:sz=ksz:=hE _ (.tail _ (.head _))
      subst hv;subst hz
      rw[HE]at hc
      have hj:j<sz:=by
       have:=(List.getElem?_eq_some_iff.1 hc).1
       rwa [hK2]at this
      exact .US (f:=f) (i:=i) (j:=j) hS2 hC hK1 hK2 hx ha (λ hW=>(hp hW).1) (by simpa[Nat.blt_eq]using hj) hc
     ·cases h
    ·split at h
     ·rename_i r hr
      split at h
      ·rename_i r' hr'
       simp only[Option.some.injEq,Prod.mk.injEq]at h;obtain⟨rfl,rfl,rfl⟩:=h
       have hv:x'=kv:=hE _ (.head _)
       have hz:sz=ksz:=hE _ (.tail _ (.head _))
       subst hv;subst hz
       have e1:=VN _ _ hr'
       obtain⟨e2,e3,e4⟩:=SW _ _ _ _ hr
       show PV P C L.d W.d _ (.agg (r'.map XV.d0).toArray)
       rw[e1,e2]
       refine .wK (f:=f) (i:=i) (j:=j) (n:=n) hS2 hC hK1 hK2 hx ha hs (λ hW=>(hp hW).1) (by rw[hK2]at e4;exact e4)
      ·cases h
     ·cases h
   ·cases h
  ·rename_i k b o
   split at h
   ·rename_i b' cs t' h2
    obtain⟨i,hi,_⟩:=IH (Hr:=Hr) h2
    split at h
    ·split at h
     ·rename_i c hc
      split at h
      ·rename_i hcell
       simp only[Option.some.injEq,Prod.mk.injEq]at h;obtain⟨rfl,rfl,rfl⟩:=h
       have hb:b=b':=hE _ (.head _)
       subst hb
       rw[HE]at hc
       rw[<-iJ hcell]
       exact .B8 hS hC hi hx ha (by simp[hc])
      ·cases h
     ·cases h
    ·split at h
     ·rename_i r hr
      simp only[Option.some.injEq,Prod.mk.injEq]at h;obtain⟨rfl,rfl,rfl⟩:=h
      have hb:b=b':=hE _ (.head _)
      subst hb
      obtain⟨e2,e3,e4⟩:=SW _ _ _ _ hr
      exact .UR hS hC hi hx ha hs (by rw[List.length_map];exact e3) (by rw[e2];simp[List.map_take,List.map_drop])
     ·cases h
   ·cases h
  ·cases h
 ·cases h
theorem wR{t:TypeId}{x:Operand}{lo hi:Option Operand}{v:XV}{p:List Prop}{E:List Ck}(hT:EH P T)(h:KM T L W t x lo hi=some (v,p,E))(hE:AD E)(hp:W.d=true->HZ p):PV P C L.d W.d ⟨d,.slice t x lo hi none,ty,ps,af,gd⟩ v.d:=by
 unfold KM at h
 split at h
 ·rename_i h0
  have ht:=(hT _ _ h0).kind
  split at h
  ·rename_i vx E0 h1
   split at h
   ·rename_i a h2
    have:=ZE h2;subst this
    split at h
    ·rename_i y z
     split at h
     ·rename_i vy E1 h3
      split at h
      ·rename_i vz E2 h4
       split at h
       ·rename_i k i h5
        split at h
        ·rename_i k' j h6
         have:=PF h5;subst this
         have:=PF h6;subst this
         simp only[Option.some.injEq,Prod.mk.injEq]at h;obtain⟨rfl,rfl,rfl⟩:=h
         exact .KM (AN h1 hE.app.1) (AN h3 hE.app.2.app.1) (AN h4 hE.app.2.app.2) ht λ hW=>(hp hW).1
        ·cases h
       ·cases h
      ·cases h
     ·cases h
    ·rename_i y
     split at h
     ·rename_i vy E1 h3
      split at h
      ·rename_i k i h5
       have:=PF h5;subst this
       simp only[Option.some.injEq,Prod.mk.injEq]at h;obtain⟨rfl,rfl,rfl⟩:=h
       exact .JS (AN h1 hE.app.1) (AN h3 hE.app.2) ht λ hW=>(hp hW).1
      ·cases h
     ·cases h
    ·rename_i z
     split at h
     ·rename_i vy E1 h3
      split at h
      ·rename_i k i h5
       have:=PF h5;subst this
       simp only[Option.some.injEq,Prod.mk.injEq]at h;obtain⟨rfl,rfl,rfl⟩:=h
       exact .QI (AN h1 hE.app.1) (AN h3 hE.app.2) ht λ hW=>(hp hW).1
      ·cases h
     ·cases h
    ·cases h
   ·cases h
  ·cases h
 ·cases h
theorem wS{op:BinOp}{t t':TypeId}{x y:Operand}{a b v:XV}(hT:EH P T)(h:ZM T op t a b=some v)(hx:A8 L.d W.d x a.d)(hy:A8 L.d W.d y b.d):PV P C L.d W.d ⟨d,.binOp op t x y t',ty,ps,af,gd⟩ v.d:=by
 unfold ZM at h
 split at h
 ·rename_i p h1
  split at h
  ·rename_i q h2
   have:=OI h1;subst this
   have:=OI h2;subst this
   split at h
   ·rename_i h3
    split at h
    ·cases h;exact .sX (hT _ _ h3).kind hx hy
    ·cases h;exact .sY (hT _ _ h3).kind hx hy
    ·cases h
   ·cases h
  ·cases h
 ·cases h
theorem wT{t:TypeId}{x y:Operand}{a b v:XV}{p:List Prop}(hT:EH P T)(h:C2 T t a b=some (v,p))(hx:A8 L.d W.d x a.d)(hy:A8 L.d W.d y b.d)(hp:W.d=true->HZ p):PV P C L.d W.d ⟨d,.index t x y,ty,ps,af,gd⟩ v.d:=by
 unfold C2 at h
 split at h
 ·rename_i h0
  split at h
  ·rename_i s h1
   have:=ZE h1;subst this
   split at h
   ·rename_i k i h2
    have:=PF h2;subst this
    simp only[Option.some.injEq,Prod.mk.injEq]at h;obtain⟨rfl,rfl⟩:=h
    exact .C2 hx hy (hT _ _ h0).kind λ hW=>(hp hW).1
   ·cases h
  ·cases h
 ·cases h
theorem iL{M:Mem}{K:Kn}(h:K.ok M):K.v.oneCell'=true:=by
 obtain⟨p,cap,hv,_⟩:=h.sl.val
 rw[hv];rfl
theorem VR{v:Value}(h:v.oneCell'=true):v.cells.toList=[v]:=by cases v<;>first|rfl|(cases h)
theorem wU{w0 w:World}{M0 M:Mem}{F:List (Nat×Kn)}{H:List (Nat×HX)}{Hr:List HO}(hF:BF M F)(hS:St w0 M0 w M (HD H++Hr)){v:XV}{E:List Ck}(h:VQ F H v=some E)(hE:AD E):v.d=v.d0/\v.d.cells.toList=[v.d0]:=by
 cases v with
 |v u=>
  simp only[VQ]at h
  split at h
  ·rename_i h1;exact⟨rfl,VR h1⟩
  ·cases h
 |sl k u=>
  simp only[VQ]at h
  split at h
  ·rename_i α inh kv sz l f g' hg' h1
   simp only[Option.some.injEq]at h;subst h
   have:u=kv:=hE _ (.head _)
   refine⟨rfl,VR ?_⟩
   show u.oneCell'=true
   obtain⟨M2,Hs2,hS2,hK⟩:=R7 hF hS h1
   rw[this];exact iL hK
  ·cases h
 |el k x sz i j=>exact⟨rfl,rfl⟩
 |bx k b o=>exact⟨rfl,rfl⟩
 |ag cs=>cases h
 |tu vs=>cases h
theorem ZP{w0 w:World}{M0 M:Mem}{F:List (Nat×Kn)}{H:List (Nat×HX)}{Hr:List HO}{L:XE}{W:Gd}{fs:List (Nat×Nat×Bool)}(hF:BF M F)(hS:St w0 M0 w M (HD H++Hr)): ∀ {ps:List (Nat×Operand)} {cs r:List XV} {E:List Ck},R5 F H L W fs cs ps=some (r,E)->AD E-> ∃vs,G3 L.d W.d ps vs/\M5 fs (cs.map XV.d0) vs=some (r.map XV.d0)
 |[],cs,r,E,h,hE=>by simp only[R5,Option.some.injEq,Prod.mk.injEq]at h;obtain⟨rfl,rfl⟩:=h;exact⟨[],.nil,rfl⟩
 |(i,x)::ps,cs,r,E,h,hE=>by
  unfold R5 at h
  have go: ∀ {off n:Nat} {g:Bool} {v:XV} {vs cs':List XV} {E0:List Ck},nth fs i=some (off,n,g)->BZ L W x=some (v,E0)->AD E0->v.d.cells.toList=vs.map XV.d0->vs.length=n->K5 cs off vs=some cs'->
    (∃us,G3 L.d W.d ps us/\M5 fs (cs'.map XV.d0) us=some (r.map XV.d0))-> ∃us,G3 L.d W.d ((i,x)::ps) us/\M5 fs (cs.map XV.d0) us=some (r.map XV.d0):=by
   intro off n g v vs cs' E0 h1 h2 hE0 h3 h4 h5 ⟨us,h6,h7⟩
   obtain⟨e,hle⟩:=put_eq _ _ _ _ h5
   refine⟨(i,v.d)::us,.cons (AN h2 hE0) h6,?_⟩
   rw[HE]at h1
   simp only[M5,h1,h3,List.length_map,h4,true_and]
   rw[if_pos (by omega)]
   rw[<-h7,e]
   congr 1
   unfold GH
   simp[List.map_take,List.map_drop]
  split at h
  ·rename_i off n g h1
   split at h
   ·rename_i v E0 h2
    split at h
    ·split at h
     ·rename_i vs
      split at h
      ·rename_i hl
       split at h
       ·rename_i cs' h5
        split at h
        ·rename_i r' E' h6
         simp only[Option.some.injEq,Prod.mk.injEq]at h;obtain⟨rfl,rfl⟩:=h
         exact go h1 h2 hE.app.1 (by simp[XV.d,XV.d1,Value.cells]) (Nat.eq_of_beq_eq_true hl) h5 (ZP hF hS h6 hE.app.2)
        ·cases h
       ·cases h
      ·cases h
     ·cases h
    ·split at h
     ·rename_i E1 h3
      split at h
      ·rename_i hl
       split at h
       ·rename_i cs' h5
        split at h
        ·rename_i r' E' h6
         simp only[Option.some.injEq,Prod.mk.injEq]at h;obtain⟨rfl,rfl⟩:=h
         exact go h1 h2 hE.app.2.app.1 (vs:=[v]) (by rw[(wU hF hS h3 hE.app.1).2];rfl) (Nat.eq_of_beq_eq_true hl) h5 (ZP hF hS h6 hE.app.2.app.2)
        ·cases h
       ·cases h
      ·cases h
     ·cases h
   ·cases h
  ·cases h
theorem wV{P:Program}{C:World->Prop}{L:XE}{W:Gd}{d:Option Tmp}{ty:TypeId}{ps:String}{af:Array Edge}{gd:Option (Nat×Bool)}{T:TT}{F:List (Nat×Kn)}{H:List (Nat×HX)}{Hr:List HO}{w0 w:World}{M0 M:Mem}{t:TypeId}{xs:Array (Nat×Operand)}{v:XV}{p:List Prop}{E:List Ck}(hT:EH P T)(hF:BF M F)(hS:St w0 M0 w M (HD H++Hr))(h:ZN T F H L W t xs=some (v,p,E))(hE:AD E):
  PV P C L.d W.d ⟨d,.build t xs,ty,ps,af,gd⟩ v.d:=by
 unfold ZN at h
 split at h
 ·rename_i fs zs _ _ h1
  split at h
  rename_i l
  split at h
  ·rename_i cs h2
   split at h
   ·rename_i r E' h3
    simp only[Option.some.injEq,Prod.mk.injEq]at h;obtain⟨rfl,rfl,rfl⟩:=h
    obtain⟨vs,h4,h5⟩:=ZP hF hS h3 hE
    rw[VN _ _ h2]at h5
    exact PV.build h4 λ w=>(hT _ _ h1).kind.1 vs _ w h5
   ·cases h
  ·cases h
 ·cases h
theorem wW{x:Operand}{a v:XV}{i:Nat}(h:ZO a i=some v)(hx:A8 L.d W.d x a.d):PV P C L.d W.d ⟨d,.extract x i,ty,ps,af,gd⟩ v.d:=by
 unfold ZO at h
 split at h
 ·rename_i vs
  split at h
  ·cases h
  ·rename_i r hn
   rw[HE]at h
   have hv:v.d=v.d1:=by
    cases v with
    |tu l=>exact absurd (by rw[HE];exact h) (hn l)
    |_=>rfl
   refine .ex (vs:=(vs.map XV.d1).toArray) hx ?_
   simp[h,hv]
 ·cases h
theorem wX{t:TypeId}{x:Operand}{a v:XV}(h:ZK a=some v)(hx:A8 L.d W.d x a.d):PV P C L.d W.d ⟨d,.unOp .not t x,ty,ps,af,gd⟩ v.d:=by
 unfold ZK at h
 split at h
 ·cases h;exact .not hx
 ·cases h
theorem wY{t:TypeId}{x:Operand}{a v:XV}{p:List Prop}(h:ZL a=some (v,p))(hx:A8 L.d W.d x a.d)(hp:W.d=true->HZ p):PV P C L.d W.d ⟨d,.unOp .neg t x,ty,ps,af,gd⟩ v.d:=by
 unfold ZL at h
 split at h
 ·simp only[Option.some.injEq,Prod.mk.injEq]at h;obtain⟨rfl,rfl⟩:=h
  exact .eT hx λ hW=>SX (hp hW)
 ·cases h
theorem T0{op:Op}{v:XV}{p:List Prop}{E:List Ck}(hT:EH P T)(hF:BF M F)(hS:St w0 M0 w M (HD H++Hr))(hC: ∀w',C w'->Ext w w')(h:R6 T F H L W op=some (v,p,E))(hE:AD E)(hp:W.d=true->HZ p):
  PV P C L.d W.d ⟨d,op,ty,ps,af,gd⟩ v.d:=by
 unfold R6 at h
 split at h
 ·split at h
  ·rename_i h1;simp only[Option.some.injEq,Prod.mk.injEq]at h;obtain⟨rfl,rfl,rfl⟩:=h;exact .move (AN h1 hE)
  ·cases h
 ·split at h
  ·rename_i h1;simp only[Option.some.injEq,Prod.mk.injEq]at h;obtain⟨rfl,rfl,rfl⟩:=h;exact .assign (AN h1 hE)
  ·cases h
 ·exact wL h hE
 ·split at h
  ·rename_i a b E1 h1
   split at h
   ·rename_i h2
    simp only[Option.some.injEq,Prod.mk.injEq]at h;obtain⟨rfl,rfl,rfl⟩:=h
    have h3:=M6 h1 hE
    exact wB h2 h3.1 h3.2 hp
   ·split at h
    ·rename_i h2
     simp only[Option.some.injEq,Prod.mk.injEq]at h;obtain⟨rfl,rfl,rfl⟩:=h
     have h3:=M6 h1 hE
     exact wS hT h2 h3.1 h3.2
    ·cases h
  ·cases h
 ·split at h
  ·rename_i a E1 h1
   split at h
   ·split at h
    ·rename_i h2
     simp only[Option.some.injEq,Prod.mk.injEq]at h;obtain⟨rfl,rfl,rfl⟩:=h
     exact wX h2 (AN h1 hE)
    ·cases h
   ·split at h
    ·rename_i h2
     simp only[Option.some.injEq,Prod.mk.injEq]at h;obtain⟨rfl,rfl,rfl⟩:=h
     exact wY h2 (AN h1 hE) hp
    ·cases h
   ·cases h
  ·cases h
 ·split at h
  ·rename_i a E1 h1
   split at h
   ·rename_i h2
    simp only[Option.some.injEq,Prod.mk.injEq]at h;obtain⟨rfl,rfl,rfl⟩:=h
    exact wM hT h2 (AN h1 hE) hp
   ·cases h
  ·cases h
 ·exact wR hT h hE hp
 ·split at h
  ·rename_i a E1 h1
   split at h
   ·rename_i h2
    simp only[Option.some.injEq,Prod.mk.injEq]at h;obtain⟨rfl,rfl,rfl⟩:=h
    exact wP hT h2 (AN h1 hE)
   ·cases h
  ·cases h
 ·split at h
  ·rename_i a E1 h1
   split at h
   ·rename_i h2
    simp only[Option.some.injEq,Prod.mk.injEq]at h;obtain⟨rfl,rfl,rfl⟩:=h
    exact wQ hT h2 (AN h1 hE)
   ·cases h
  ·cases h
 ·split at h
  ·rename_i a b E1 h1
   split at h
   ·rename_i h2
    simp only[Option.some.injEq,Prod.mk.injEq]at h;obtain⟨rfl,rfl,rfl⟩:=h
    have h3:=M6 h1 hE.app.1
    exact wO hT hF hS h2 hE.app.2 h3.1 h3.2 hp
   ·cases h
  ·cases h
 ·split at h
  ·rename_i a b E1 h1
   split at h
   ·rename_i h2
    simp only[Option.some.injEq,Prod.mk.injEq]at h;obtain⟨rfl,rfl,rfl⟩:=h
    have h3:=M6 h1 hE
    exact wT hT h2 h3.1 h3.2 hp
   ·cases h
  ·cases h
 ·split at h
  ·rename_i a E1 h1
   split at h
   ·rename_i h2
    simp only[Option.some.injEq,Prod.mk.injEq]at h;obtain⟨rfl,rfl,rfl⟩:=h
    exact iK hT hF hS hC h2 hE.app.2 (AN h1 hE.app.1) hp
   ·cases h
  ·cases h
 ·exact wV hT hF hS h hE
 ·split at h
  ·rename_i a E1 h1
   split at h
   ·rename_i h2
    simp only[Option.some.injEq,Prod.mk.injEq]at h;obtain⟨rfl,rfl,rfl⟩:=h
    exact wW h2 (AN h1 hE)
   ·cases h
  ·cases h
 ·split at h
  ·rename_i a E1 h1
   split at h
   ·rename_i h2
    simp only[Option.some.injEq,Prod.mk.injEq]at h;obtain⟨rfl,rfl,rfl⟩:=h
    exact wN hT hF hS h2 hE.app.2 (AN h1 hE.app.1)
   ·cases h
  ·cases h
 ·split at h
  ·rename_i a E1 h1
   split at h
   ·rename_i h2
    simp only[Option.some.injEq,Prod.mk.injEq]at h;obtain⟨rfl,rfl,rfl⟩:=h
    have h3:=AN h1 hE
    cases a<;>first|exact PV.IB h3|cases h2
   ·cases h
  ·cases h
 ·cases h
end
def T1(P:Program)(t:TypeId):Option Bool:=
 match P.underlying t with
 |some (.struct _)=>some true
 |some (.array _ _)=>some true
 |some _=>some false
 |none=>none
def R8(P:Program)(t:TypeId):Option Nat:=
 match P.info? t with
 |some i=>some i.size
 |none=>none
def wZ:Bool->Bool->Bool
 |true,true=>true
 |false,false=>true
 |_,_=>false
def T2(x:Option Nat)(n:Nat):Bool:=match x with|some m=>Nat.beq m n|none=>false
def VS(x:Option Bool)(n:Bool):Bool:=match x with|some m=>wZ m n|none=>false
theorem VT{x:Option Nat}{n:Nat}(h:T2 x n=true):x=some n:=by
 unfold T2 at h;split at h
 ·rw[Nat.eq_of_beq_eq_true h]
 ·cases h
theorem iM{x:Option Bool}{n:Bool}(h:VS x n=true):x=some n:=by
 unfold VS at h;split at h
 ·rename_i m;cases m<;>cases n<;>first|rfl|cases h
 ·cases h
def KY(P:Program)(sz:Nat):List Field->List (Nat×Nat×Bool)->Bool
 |f::fl,(off,n,g)::fs=>Nat.beq f.offset off&&T2 (R8 P f.type) n&&VS (T1 P f.type) g&&Nat.blt 0 n&&Nat.ble (off+n) sz&&KY P sz fl fs
 |[],[]=>true
 |_,_=>false
def ZQ:Value->Value->Bool
 | .bool false,.bool false=>true
 | .int k a,.int k' b=>match SY k k',a,b with
  |true,.ofNat 0,.ofNat 0=>true
  |_,_,_=>false
 | .string ⟨⟨[]⟩⟩,.string ⟨⟨[]⟩⟩=>true
 | .slice none 0 0,.slice none 0 0=>true
 | .pointer none,.pointer none=>true
 | .map none,.map none=>true
 | .nilFunc,.nilFunc=>true
 | .nilIface,.nilIface=>true
 |_,_=>false
theorem x6{a b:Value}(h:ZQ a b=true):a=b:=by
 unfold ZQ at h
 split at h<;>first|rfl|(cases h)|skip
 split at h
 ·rename_i hk;rw[VO hk]
 ·cases h
def R9:List Value->List Value->Bool
 |[],[]=>true
 |a::x,b::y=>ZQ a b&&R9 x y
 |_,_=>false
theorem iN: ∀ {x y:List Value},R9 x y=true->x=y
 |[],[],_=>rfl
 |a::x,b::y,h=>by simp only[R9,Bool.and_eq_true]at h;rw[x6 h.1,iN h.2]
 |[],_::_,h=>by simp[R9]at h
 |_::_,[],h=>by simp[R9]at h
def ZR(P:Program)(t:TypeId)(zs:List Value):Bool:=
 match P.info? t with
 |some i=>match i.zero with
  |some z=>R9 z.cells.toList zs
  |none=>false
 |none=>false
def ZS(P:Program)(t:TypeId)(d:TD):Bool:=
 T2 (R8 P t) d.sz&&VS (T1 P t) d.agg&&match d.k with
  | .str=>match P.underlying t with|some .string=>true|_=>false
  | .bool=>match P.underlying t with|some .bool=>true|_=>false
  | .int k=>match P.underlying t with|some (.int k')=>SY k' k|_=>false
  | .row e esz=>match P.underlying t with|some (.slice e')=>Nat.beq e' e&&T2 (R8 P e) esz|_=>false
  | .st fs zs=>match P.underlying t with|some (.struct fl)=>KY P d.sz fl.toList fs&&Nat.beq zs.length d.sz&&ZR P t zs|_=>false
  | .any=>true
def ZT(P:Program):TT->Bool
 |[]=>true
 |(t,d)::T=>ZS P t d&&ZT P T
theorem T3{P:Program}{t:TypeId}{n:Nat}(h:R8 P t=some n)(w:World):(sizeOf t).run P w= .ok n w:=by
 unfold R8 at h
 split at h
 ·rename_i i hi
  cases h
  simp[sizeOf,typeInfo,hi]
 ·cases h
theorem ZU{P:Program}{t:TypeId}{g:Bool}(h:T1 P t=some g)(w:World):(isAgg t).run P w= .ok g w:=by
 unfold T1 at h
 split at h
 ·rename_i hu;cases h;simp[isAgg,run_underlying hu]
 ·rename_i hu;cases h;simp[isAgg,run_underlying hu]
 ·rename_i d h1 h2 hu
  cases h
  simp only[isAgg,Sem.run_bind,run_underlying hu,Result.andThen_ok]
  cases d<;>first|rfl|(exact absurd rfl (h1 _))|(exact absurd rfl (h2 _ _))
 ·cases h
theorem iO{P:Program}{sz:Nat}: ∀ {fl:List Field} {fs:List (Nat×Nat×Bool)},KY P sz fl fs=true-> ∀(i off n:Nat) (g:Bool),fs[i]? =some (off,n,g)-> ∃f:Field,fl[i]? =some f/\f.offset=off/\R8 P f.type=some n/\T1 P f.type=some g/\0<n/\off+n<=sz
 |[],[],_,i,off,n,g,hi=>by simp at hi
 |f::fl,(off',n',g')::fs,h,i,off,n,g,hi=>by
  simp only[KY,Bool.and_eq_true]at h
  obtain⟨⟨⟨⟨⟨h1,h2⟩,h3⟩,h4⟩,h5⟩,h6⟩:=h
  cases i with
  |zero=>
   simp only[List.getElem?_cons_zero,Option.some.injEq,Prod.mk.injEq]at hi
   obtain⟨rfl,rfl,rfl⟩:=hi
   exact⟨f,rfl,Nat.eq_of_beq_eq_true h1,VT h2,iM h3,by simpa[Nat.blt_eq]using h4,Nat.le_of_ble_eq_true h5⟩
  |succ i=>
   simp only[List.getElem?_cons_succ]at hi ⊢
   exact iO h6 i off n g hi
 |[],_::_,h,_,_,_,_,_=>by simp[KY]at h
 |_::_,[],h,_,_,_,_,_=>by simp[KY]at h
theorem iP{P:Program}{sz:Nat}(w:World): ∀ {fl:List Field} {fs:List (Nat×Nat×Bool)},KY P sz fl fs=true->(fl.mapM λ f=>(do pure (f.offset,<-sizeOf f.type):Sem (Nat×Nat))).run P w= .ok (fs.map λ x=>(x.1,x.2.1)) w
 |[],[],_=>rfl
 |f::fl,(off',n',g')::fs,h=>by
  simp only[KY,Bool.and_eq_true]at h
  obtain⟨⟨⟨⟨⟨h1,h2⟩,h3⟩,h4⟩,h5⟩,h6⟩:=h
  have ih:=iP w h6
  have:=Nat.eq_of_beq_eq_true h1;subst this
  simp only[List.mapM_cons,Sem.run_bind,T3 (VT h2),Result.andThen_ok,Sem.run_pure,ih,List.map_cons]
 |[],_::_,h=>by simp[KY]at h
 |_::_,[],h=>by simp[KY]at h
theorem iQ: ∀(vs:List Value) (j off:Nat) (cs:Array Value),off+j+vs.length<=cs.size->((vs.zipIdx j).foldl (λ cs x=>cs.setIfInBounds (off+x.2) x.1) cs).toList=cs.toList.take (off+j)++vs++cs.toList.drop (off+j+vs.length)
 |[],j,off,cs,_=>by simp
 |v::vs,j,off,cs,h=>by
  rw[List.zipIdx_cons,List.foldl_cons,iQ vs (j+1) off _ (by simp at h ⊢;omega)]
  simp only[List.length_cons]at h ⊢
  have hl:off+j<cs.toList.length:=by simp;omega
  have hA:(cs.toList.take (off+j)).length=off+j:=by simp;omega
  simp only[Array.toList_setIfInBounds]
  rw[List.set_eq_take_append_cons_drop,if_pos hl]
  have t1:((cs.toList.take (off+j))++v::cs.toList.drop (off+j+1)).take (off+(j+1))=cs.toList.take (off+j)++[v]:=by
   rw[List.take_append,hA,List.take_of_length_le (by omega),show off+(j+1)-(off+j)=1 by omega];rfl
  have t2:((cs.toList.take (off+j))++v::cs.toList.drop (off+j+1)).drop (off+(j+1)+vs.length)=cs.toList.drop (off+j+(vs.length+1)):=by
   rw[List.drop_append,hA,List.drop_of_length_le (by omega),show off+(j+1)+vs.length-(off+j)=vs.length+1 by omega,List.drop_succ_cons,List.drop_drop,List.nil_append]
   congr 1;omega
  rw[t1,t2];simp
theorem iR{fs:List (Nat×Nat×Bool)}: ∀ {ps:List (Nat×Value)} {cs r:List Value},M5 fs cs ps=some r->Instr.fill ((fs.map λ x=>(x.1,x.2.1)).toArray[·]?) cs.toArray ps=some r.toArray
 |[],cs,r,h=>by simp only[M5,Option.some.injEq]at h;subst h;rfl
 |(i,v)::ps,cs,r,h=>by
  unfold M5 at h
  split at h
  ·rename_i off n g hi
   split at h
   ·rename_i hc
    have ih:=iR h
    unfold Instr.fill
    have hp:(fs.map λ x=>(x.1,x.2.1)).toArray[i]? =some (off,n):=by simp[hi]
    have hsz:v.cells.size=n:=by rw[<-hc.1];simp
    simp only[hp,hsz,ne_eq,not_true_eq_false,decide_false,Bool.false_or,List.size_toArray]
    have hcond:(decide (n≠n)||decide (off+n>cs.length))=true↔False:=by simp;omega
    have e:(v.cells.zipIdx.foldl (λ cs x=>cs.setIfInBounds (off+x.2) x.1) cs.toArray)=(GH cs off v.cells.toList).toArray:=by
     have:=iQ v.cells.toList 0 off cs.toArray (by rw[hc.1];simp;omega)
     apply Array.ext'
     rw[<-Array.foldl_toList,Array.toList_zipIdx,this]
     simp[GH]
    have hle: ¬off+n>cs.length:=by omega
    simp only[hle,if_false]
    rw[<-ih,<-e]
    simp
   ·cases h
  ·cases h
theorem x7{P:Program}{t:TypeId}{fl:Array Field}{fs:List (Nat×Nat×Bool)}{zs:List Value}{sz:Nat}(hu:P.underlying t=some (.struct fl))(h:KY P sz fl.toList fs=true)(hzl:zs.length=sz)(hz:ZR P t zs=true)(ps:List (Nat×Value))(cs:List Value)(w:World)(hf:M5 fs zs ps=some cs):
  (Instr.build t ps.toArray).run P w= .ok (.agg cs.toArray) w:=by
 unfold ZR at hz
 split at hz
 ·rename_i i hi
  split at hz
  ·rename_i z hz2
   have hzc:=iN hz
   have hzv:(zeroValue t).run P w= .ok z w:=by simp[zeroValue,typeInfo,hi,hz2]
   have hm:(fl.mapM λ f=>(do pure (f.offset,<-sizeOf f.type):Sem (Nat×Nat))).run P w= .ok (fs.map λ x=>(x.1,x.2.1)).toArray w:=by
    have:=iP w h
    rw[Array.mapM_eq_mapM_toList]
    refine(Sem.run_bind' P _ _ w).trans ?_
    rw[this];rfl
   have hcells:z.cells=zs.toArray:=by rw[<-hzc]
   have hfill:=iR hf
   simp only[Instr.build,Sem.run_bind,hzv,Result.andThen_ok,run_underlying hu,hm,hcells,hfill,Sem.run_pure]
  ·cases hz
 ·cases hz
theorem x8{P:Program}{t:TypeId}{d:TD}(h:ZS P t d=true):d.ok P t:=by
 simp only[ZS,Bool.and_eq_true]at h
 obtain⟨⟨h1,h2⟩,h3⟩:=h
 refine⟨ZU (iM h2),T3 (VT h1),?_⟩
 cases hk:d.k with
 |str=>rw[hk]at h3;simp only at h3;split at h3<;>first|assumption|cases h3
 |bool=>rw[hk]at h3;simp only at h3;split at h3<;>first|assumption|cases h3
 |int k=>
  rw[hk]at h3;simp only at h3
  split at h3
  ·rename_i k' hu;have:=VO h3;subst this;exact hu
  ·cases h3
 |row e esz=>
  rw[hk]at h3;simp only at h3
  split at h3
  ·rename_i e' hu
   simp only[Bool.and_eq_true]at h3
   have:=Nat.eq_of_beq_eq_true h3.1;subst this
   exact⟨hu,T3 (VT h3.2)⟩
  ·cases h3
 |st fs zs=>
  rw[hk]at h3;simp only at h3
  split at h3
  ·rename_i fl hu
   simp only[Bool.and_eq_true]at h3
   obtain⟨⟨h3,hzl⟩,hz⟩:=h3
   refine⟨x7 hu h3 (Nat.eq_of_beq_eq_true hzl) hz,?_⟩
   intro i off n g hi
   obtain⟨f,hf,rfl,hs,ha,h0,hle⟩:=iO h3 i off n g hi
   have hf':fl[i]? =some f:=by simpa using hf
   refine⟨λ b o w=>?_,λ cs w hl=>⟨hle,?_⟩⟩
   ·have hn:n≠0:=by omega
    simp[Instr.fieldAt,run_underlying hu,hf',Instr.sureAddr,fieldPlace,T3 hs,hn,H8]
   ·cases g with
    |true=>simp[Instr.field,run_underlying hu,hf',asAgg,part,ZU ha,T3 hs]
    |false=>
     have hlt:f.offset<cs.length:=by omega
     simp[Instr.field,run_underlying hu,hf',asAgg,part,ZU ha,hlt]
  ·cases h3
 |any=>trivial
theorem iS{P:Program}: ∀ {T:TT},ZT P T=true->EH P T
 |[],_=>λ t td h=>by cases h
 |(t,d)::T,h=>by
  simp only[ZT,Bool.and_eq_true]at h
  intro t' td ht
  unfold HY at ht
  split at ht
  ·rename_i e;cases ht;have:=Nat.eq_of_beq_eq_true e;subst this;exact x8 h.1
  ·exact iS h.2 t' td ht
class iT (P:Program)where
 T:TT
 ok:EH P T
inductive Tg where
 |s (k:Nat)
 |b (k:Nat)
 |g
def iU:List (Nat×Tg)->Nat->Option Tg
 |[],_=>none
 |(t,d)::T,k=>match Nat.beq t k with
  |true=>some d
  |false=>iU T k
def MB(tg:List (Nat×Tg))(L:Env):List Nat->XE->List Ck->Option (XE×List Ck)
 |[],X,E=>some (X,E)
 |k::ks,X,E=>match look L k with
  |none=>MB tg L ks X E
  |some (g,v)=>match iU tg k with
   |some (.s n)=>MB tg L ks ((k,.t,.sl n v)::X) (.b true g::E)
   |some (.b n)=>match v with
    | .pointer (some ⟨b,o,none⟩)=>MB tg L ks ((k,.t,.bx n b o)::X) (.b true g::E)
    |_=>none
   |some .g=>MB tg L ks ((k,.g g,.v v)::X) E
   |none=>MB tg L ks ((k,.t,.v v)::X) (.b true g::E)
def II(X:XE)(L:Env):Prop:= ∀k g v,BE X k=some (g,v)->look L k=some (g.d,v.d)
theorem II.cons {X:XE}{L:Env}(h:II X L){k:Nat}{g:Gd}{v:XV}{g':Bool}{v':Value}(hl:look L k=some (g',v'))(hg:g.d=g')(hv:v.d=v'):II ((k,g,v)::X) L:=by
 intro t g2 v2 ht
 unfold BE at ht
 split at ht
 ·rename_i e;cases ht;have:=Nat.eq_of_beq_eq_true e;subst this;rw[hl,hg,hv]
 ·exact h t g2 v2 ht
theorem II.put {X:XE}{L:Env}(h:II X L){k:Nat}{g:Gd}{v:XV}:II ((k,g,v)::X) ((k,g.d,v.d)::L):=by
 intro t g2 v2 ht
 unfold BE at ht
 split at ht
 ·rename_i e;cases ht;have:=Nat.eq_of_beq_eq_true e;subst this;rw[KL]
 ·rename_i e
  have:k≠t:=λ e'=>by subst e';rw[Nat.beq_refl]at e;cases e
  rw[HP this];exact h t g2 v2 ht
theorem VU{tg:List (Nat×Tg)}{L:Env}: ∀ {ks:List Nat} {X X':XE} {E E':List Ck},MB tg L ks X E=some (X',E')->AD E'->(AD E->II X L)->II X' L/\AD E
 |[],X,X',E,E',h,hE,hX=>by simp only[MB,Option.some.injEq,Prod.mk.injEq]at h;obtain⟨rfl,rfl⟩:=h;exact⟨hX hE,hE⟩
 |k::ks,X,X',E,E',h,hE,hX=>by
  unfold MB at h
  split at h
  ·exact VU h hE hX
  ·rename_i g v hl
   have go: ∀(x:XV),x.d=v->MB tg L ks ((k,.t,x)::X) (.b true g::E)=some (X',E')->II X' L/\AD E:=by
    intro x hx h2
    have:=VU h2 hE λ hE2=>(hX λ c hc=>hE2 c (.tail _ hc)).cons hl (by have h3:g=true:=hE2 _ (.head _) U;rw[h3];rfl) hx
    exact⟨this.1,λ c hc=>this.2 c (.tail _ hc)⟩
   split at h
   ·exact go _ U h
   ·split at h
    ·exact go _ U h
    ·cases h
   ·exact VU h hE λ hE2=>(hX hE2).cons hl U U
   ·exact go _ U h
theorem II.iV {X:XE}{L:Env}(h:II X L){a:Act}{N:Nat}(hs:AJ a N L):AJ a N X.d:=
 ⟨hs.size,hs.DE,λ t g v ht=>by
  obtain⟨g',v',h1,rfl,rfl⟩:=PG ht
  exact hs.val t _ _ (h t g' v' h1)⟩
def tm:Operand->List Nat->List Nat
 | .tmp k,r=>k::r
 |_,r=>r
def iW:Option Operand->List Nat->List Nat
 |some x,r=>tm x r
 |none,r=>r
def tmp:List (Nat×Operand)->List Nat->List Nat
 |[],r=>r
 |(_,x)::ps,r=>tm x (tmp ps r)
def x9:Op->List Nat->List Nat
 | .move x,r=>tm x r
 | .assign x,r=>tm x r
 | .pick c x y,r=>tm c (tm x (tm y r))
 | .binOp _ _ x y _,r=>tm x (tm y r)
 | .unOp _ _ x,r=>tm x r
 | .convert _ _ x,r=>tm x r
 | .slice _ x lo hi _,r=>tm x (iW lo (iW hi r))
 | .fieldAddr _ x _,r=>tm x r
 | .field _ x _,r=>tm x r
 | .indexAddr _ x y,r=>tm x (tm y r)
 | .index _ x y,r=>tm x (tm y r)
 | .load _ x,r=>tm x r
 | .extract x _,r=>tm x r
 | .build _ ⟨ps⟩,r=>tmp ps r
 | .call ⟨_,⟨[x]⟩,_⟩,r=>tm x r
 |_,r=>r
def xA(all:Array Oper)(gd:Option (Nat×Bool))(r:List Nat):List Nat:=
 match gd with
 |none=>r
 |some (j,_)=>match nth all.toList j with
  |some o=>match o.dst with
   |some d=>d::r
   |none=>r
  |none=>r
def iX(all:Array Oper):Nat->List Oper->List Nat
 |n+1,o::l=>x9 o.op (xA all o.guard (iX all n l))
 |_,_=>[]
def VV:List XV->Option (List Value)
 |[]=>some []
 |x::l=>match VV l with
  |some r=>match x with
   | .v u=>some (u::r)
   | .sl _ u=>some (u::r)
   |_=>none
  |none=>none
theorem iY: ∀ {l:List XV} {r:List Value},VV l=some r->l.map XV.d0=r
 |[],r,h=>by cases h;rfl
 |x::l,r,h=>by
  unfold VV at h
  split at h
  ·rename_i r' hr
   split at h<;>first|(cases h;simp[iY hr,XV.d0])|cases h
  ·cases h
def dV:XV->Option Value
 | .v u=>some u
 | .sl _ u=>some u
 | .el _ x sz i j=>match j with
  |0=>some (.pointer (some ⟨sb x,so x+i.toNat*sz,none⟩))
  |j+1=>some (.pointer (some ⟨sb x,so x+i.toNat*sz+(j+1),none⟩))
 | .bx _ b o=>some (.pointer (some ⟨b,o,none⟩))
 | .ag cs=>match VV cs with
  |some r=>some (.agg ⟨r⟩)
  |none=>none
 | .tu _=>none
theorem xB{x:XV}{v:Value}(h:dV x=some v):x.d=v:=by
 cases x with
 |v u=>cases h;rfl
 |sl k u=>cases h;rfl
 |el k u sz i j=>cases j<;>(cases h;rfl)
 |bx k b o=>cases h;rfl
 |ag cs=>
  simp only[dV]at h
  split at h
  ·rename_i r hr;cases h;simp[XV.d,XV.d1,iY hr]
  ·cases h
 |tu vs=>cases h
def dE(
    L:Env):Nat->XE->Option Env
 |0,_=>some L
 |n+1,(k,g,v)::X=>match dE L n X with
  |some L'=>match dV v with
   |some u=>match g with
    | .t=>some ((k,true,u)::L')
    | .g b=>some ((k,b,u)::L')
   |none=>none
  |none=>none
 |_,_=>none
theorem iZ{L:Env}: ∀ {n:Nat} {X:XE} {L':Env},dE L n X=some L'->(XE.d (X.take n))++L=L'
 |0,X,L',h=>by simp only[dE,Option.some.injEq]at h;subst h;rfl
 |n+1,[],L',h=>by cases h
 |n+1,(k,g,v)::X,L',h=>by
  unfold dE at h
  split at h
  ·rename_i L2 h2
   split at h
   ·rename_i u hu
    show(k,g.d,v.d)::(XE.d (X.take n)++L)=L'
    rw[iZ h2,xB hu]
    cases g<;>(cases h;rfl)
   ·cases h
  ·cases h
structure RR where
 l:List Oper
 L:Env
 O:Prop
 E:List Ck
def T4(W:Gd):List Prop->Prop->(Prop->Option RR)->Option RR
 |[],O,K=>K O
 |p::ps,O,K=>match W with
  | .t=>T4 W ps (p/\O) K
  | .g b=>T4 W ps ((b=false\/p)/\O) K
theorem ZV{W:Gd}{K:Prop->Option RR}: ∀ {ps:List Prop} {O:Prop},∃O',T4 W ps O K=K O'/\(O'->(W.d=true->HZ ps)/\O)
 |[],O=>⟨O,rfl,λ h=>⟨λ _=>trivial,h⟩⟩
 |p::ps,O=>by
  unfold T4
  cases W with
  |t=>
   obtain⟨O',h1,h2⟩:=ZV (W:=.t) (K:=K) (ps:=ps) (O:=p/\O)
   exact⟨O',h1,λ h=>⟨λ hW=>⟨(h2 h).2.1,(h2 h).1 hW⟩,(h2 h).2.2⟩⟩
  |g b=>
   obtain⟨O',h1,h2⟩:=ZV (W:=.g b) (K:=K) (ps:=ps) (O:=(b=false\/p)/\O)
   exact⟨O',h1,λ h=>⟨λ hW=>⟨(h2 h).2.1.resolve_left (by rw[show b=true from hW];decide),(h2 h).1 hW⟩,(h2 h).2.2⟩⟩
def ZW(
     all:Array Oper) (L:XE) (gd:Option (Nat×Bool)):Option Gd:=
 match gd with
 |none=>some .t
 |some (
     j,want)=>match nth all.toList j with
  |some o=>match o.dst with
   |some d=>match BE L d with
    |some (g,v)=>match MA v with
     |some b=>match want with
      |true=>match g with
       | .t=>some (.g b)
       | .g a=>some (.g (a&&b))
      |false=>match g with
       | .t=>some (.g (!b))
       | .g a=>some (.g (a&& !b))
     |none=>none
    |none=>none
   |none=>none
  |none=>none
theorem xC{all:Array Oper}{L:XE}{gd:Option (Nat×Bool)}{W:Gd}(h:ZW all L gd=some W):DB all L.d gd W.d:=by
 unfold ZW at h
 split at h
 ·cases h;exact .none
 ·rename_i j want
  split at h
  ·rename_i o ho
   split at h
   ·rename_i d hd
    split at h
    ·rename_i g v hl
     split at h
     ·rename_i b hb
      have:=OI hb;subst this
      have hl':=HC hl
      have hj:(all[j]?).bind (·.dst)=some d:=by
       rw[HE]at ho
       simp only[Array.getElem?_toList]at ho
       rw[ho];exact hd
      split at h
      ·split at h<;>cases h
       ·exact .pos hj hl'
       ·exact .DY hj hl'
      ·split at h<;>cases h
       ·exact .neg hj hl'
       ·exact .QH hj hl'
     ·cases h
    ·cases h
   ·cases h
  ·cases h
def runs(
     T:TT) (N:Nat) (F:List (Nat×Kn)) (H:List (Nat×HX)) (all:Array Oper) (L:Env):Nat->Nat->List Oper->XE->Prop->List Ck->Option RR
 |0,i,l,X,O,E=>match dE L i X with
  |some L'=>some ⟨l,L',O,E⟩
  |none=>none
 |n+1,i,l,X,O,E=>match l with
  |⟨some d,op,ty,ps,af,gd⟩::rest=>match ZW all X gd with
   |some W=>match R6 T F H X W op with
    |some (v,p,E')=>match Nat.blt d N with
     |true=>T4 W p O λ O'=>runs T N F H all L n (i+1) rest ((d,W,v)::X) O' (E'++E)
     |false=>none
    |none=>none
   |none=>none
  |_=>none
theorem PV.rep {P:Program}{C:World->Prop}{X:XE}{L:Env}{W:Bool}{o:Oper}{v:Value}(h:PV P C X.d W o v)(hr:II X L):PV P C L W o v:=λ a N hs hW w hw=>h a N (hr.iV hs) hW w hw
theorem j0{P:Program}{T:TT}(hT:EH P T){N:Nat}{F:List (Nat×Kn)}{H:List (Nat×HX)}{Hr:List HO}{w0 w:World}{M0 M:Mem}{C:World->Prop}{G:List Oper->Env->Prop}{all:Array Oper}{L:Env}(hF:BF M F)(hS:St w0 M0 w M (HD H++Hr))(hC: ∀w',C w'->Ext w w')
  (hG: ∀ {d:Nat} {op:Op} {ty:TypeId} {ps:String} {af:Array Edge} {gd:Option (Nat×Bool)} {W:Bool} {v:Value} {rest:List Oper} {L:Env},DB all L gd W->PV P C L W ⟨some d,op,ty,ps,af,gd⟩ v->Nat.blt d N=true->G rest ((d,W,v)::L)->G (⟨some d,op,ty,ps,af,gd⟩::rest) L):
  ∀ {n i:Nat} {l:List Oper} {X:XE} {O:Prop} {E:List Ck} {r:RR},runs T N F H all L n i l X O E=some r->r.O->AD r.E->G r.l r.L->(AD E->II X ((XE.d (X.take i))++L))->G l ((XE.d (X.take i))++L)/\O/\AD E
 |0,i,l,X,O,E,r,h,hO,hE,hn,hX=>by
  unfold runs at h
  split at h
  ·rename_i L' hL
   cases h
   rw[iZ hL];exact⟨hn,hO,hE⟩
  ·cases h
 |n+1,i,l,X,O,E,r,h,hO,hE,hn,hX=>by
  unfold runs at h
  split at h
  ·rename_i d op ty ps af gd rest
   split at h
   ·rename_i W hW
    split at h
    ·rename_i v p E' hv
     split at h
     ·rename_i hd
      obtain⟨O',h1,h2⟩:=ZV (W:=W) (K:=λ O'=>runs T N F H all L n (i+1) rest ((d,W,v)::X) O' (E'++E)) (ps:=p) (O:=O)
      rw[h1]at h
      obtain⟨r1,r2,r3⟩:=j0 hT hF hS hC hG h hO hE hn (λ hE2=>(hX (AD.app hE2).2).put)
      obtain⟨hp,hO2⟩:=h2 r2
      have hX':=hX (AD.app r3).2
      exact⟨hG (λ a N hs=>xC hW a N (hX'.iV hs)) ((T0 hT hF hS hC hv (AD.app r3).1 hp).rep hX') hd r1,hO2,(AD.app r3).2⟩
     ·cases h
    ·cases h
   ·cases h
  ·cases h
def hx:Nat->List HO->Option (List (Nat×HX)×List HO)
 |0,l=>some ([],l)
 |n+1,x::l=>match hx n l with
  |some (H,Hr)=>match x with
   | .box b cs t=>some ((n,.box b (K6 cs) t)::H,Hr)
   |y=>some ((n,.ho y)::H,Hr)
  |none=>none
 |_,_=>none
theorem j3: ∀l:List Value,(K6 l).map XV.d0=l
 |[]=>rfl
 |x::l=>by simp[K6,j3 l,XV.d0]
theorem ZX: ∀ {n:Nat} {l:List HO} {H:List (Nat×HX)} {Hr:List HO},hx n l=some (H,Hr)->HD H++Hr=l
 |0,l,H,Hr,h=>by simp only[hx,Option.some.injEq,Prod.mk.injEq]at h;obtain⟨rfl,rfl⟩:=h;rfl
 |n+1,[],H,Hr,h=>by cases h
 |n+1,x::l,H,Hr,h=>by
  unfold hx at h
  split at h
  ·rename_i H2 Hr2 h2
   split at h
   ·simp only[Option.some.injEq,Prod.mk.injEq]at h;obtain⟨rfl,rfl⟩:=h
    show(HX.box _ _ _).d::(HD H2++Hr2)=_
    rw[ZX h2];simp[HX.d,j3]
   ·simp only[Option.some.injEq,Prod.mk.injEq]at h;obtain⟨rfl,rfl⟩:=h
    show(HX.ho _).d::(HD H2++Hr2)=_
    rw[ZX h2];rfl
  ·cases h
def PH(T:TT)(N:Nat)(F:List (Nat×Kn))(m:Nat)(Hs:List HO)(all:Array Oper)(tg:List (Nat×Tg))(n:Nat)(l:List Oper)(L:Env):Option RR:=
 match hx m Hs with
 |some (H,_)=>match MB tg L (iX all n l) [] []with
  |some (X,E)=>runs T N F H all L n 0 l X ((0:Int)=0) E
  |none=>none
 |none=>none
theorem ZY{P:Program}{T:TT}(hT:EH P T){N:Nat}{F:List (Nat×Kn)}{m n:Nat}{Hs:List HO}{w0 w:World}{M0 M:Mem}{C:World->Prop}{G:List Oper->Env->Prop}{all:Array Oper}{tg:List (Nat×Tg)}{l l':List Oper}{L L':Env}{O:Prop}{E:List Ck}(hF:BF M F)(hS:St w0 M0 w M Hs)(hC: ∀w',C w'->Ext w w')
  (hG: ∀ {d:Nat} {op:Op} {ty:TypeId} {ps:String} {af:Array Edge} {gd:Option (Nat×Bool)} {W:Bool} {v:Value} {rest:List Oper} {L:Env},DB all L gd W->PV P C L W ⟨some d,op,ty,ps,af,gd⟩ v->Nat.blt d N=true->G rest ((d,W,v)::L)->G (⟨some d,op,ty,ps,af,gd⟩::rest) L)
  (h:PH T N F m Hs all tg n l L=some ⟨l',L',O,E⟩) (hE:E.map Ck.diag=E) (hO:O) (hn:G l' L'):G l L:=by
 unfold PH at h
 split at h
 ·rename_i H Hr hH
  split at h
  ·rename_i X2 E2 h2
   have hnil:AD []->II [] L:=λ _ k g v h=>by cases h
   obtain⟨r1,r2,r3⟩:=j0 (H:=H) (Hr:=Hr) hT hF (by rw[ZX hH];exact hS) hC hG h hO (A0 hE) hn (λ hE2=>(VU h2 hE2 hnil).1)
   exact r1
  ·cases h
 ·cases h
section
variable {P:Program} [tab:iT P] {N:Nat} {w0 w:World} {M0 M:Mem} {Q:Exit->Act->World->Prop} {all:Array Oper} {l l':List Oper} {L L':Env} {O:Prop} {E:List Ck} {F:List (Nat×Kn)} {Hs:List HO} {C:World->Prop} {post:Act->Prop}
theorem RL.x (n m:Nat)(tg:List (Nat×Tg))(hF:BF M F)(hS:St w0 M0 w M Hs)(h:PH tab.T N F m Hs all tg n l L=some ⟨l',L',O,E⟩)(hE:E.map Ck.diag=E)(hO:O)(hn:RL P all Q N l' L' w):RL P all Q N l L w:=
 ZY (G:=λ l L=>RL P all Q N l L w) tab.ok hF hS AR (λ h1 h2 h3 h4=>RL.v h1 h2 h3 h4) h hE hO hn
theorem G7(w:World):St w nM w nM []:=Ak ⟨λ _ _ _ h=>by cases h⟩
theorem RL.o (n:Nat)(tg:List (Nat×Tg))(h:PH tab.T N [] 0 [] all tg n l L=some ⟨l',L',O,E⟩)(hE:E.map Ck.diag=E)(hO:O)(hn:RL P all Q N l' L' w):RL P all Q N l L w:=RL.x n 0 tg AA (G7 w) h hE hO hn
theorem RL.p (n:Nat)(tg:List (Nat×Tg))(h:PH tab.T N [] 0 [] all tg n l L=some ⟨l',L',(0:Int)=0,E⟩)(hE:E.map Ck.diag=E)(hn:RL P all Q N l' L' w):RL P all Q N l L w:=RL.o n tg h hE U hn
theorem RQ.x (n m:Nat)(tg:List (Nat×Tg))(hF:BF M F)(hS:St w0 M0 w M Hs)(h:PH tab.T N F m Hs all tg n l L=some ⟨l',L',O,E⟩)(hE:E.map Ck.diag=E)(hO:O)(hn:RQ P all (λ w'=>Ext w w') N post l' L'):RQ P all (λ w'=>Ext w w') N post l L:=
 ZY (G:=λ l L=>RQ P all (λ w'=>Ext w w') N post l L) tab.ok hF hS (λ _ h=>h) (λ h1 h2 h3 h4=>RQ.v h1 h2 h3 h4) h hE hO hn
theorem RS.x {w1:World}(n m:Nat)(tg:List (Nat×Tg))(hF:BF M F)(hS:St w0 M0 w1 M Hs)(h:PH tab.T N F m Hs all tg n l L=some ⟨l',L',O,E⟩)(hE:E.map Ck.diag=E)(hO:O)(hn:RS P all w1 N post l' L'):RS P all w1 N post l L:=
 ZY (G:=λ l L=>RS P all w1 N post l L) tab.ok hF hS AR (λ h1 h2 h3 h4=>RS.v h1 h2 h3 h4) h hE hO hn
end
end Go.Eng
