/- Lemmas for the card. -/
import Derived.Test.YtmjpjbmeamnfpaaGreatDoorZf14
import Derived.Shelf.Unicode.ValidAny
set_option linter.unusedVariables false
set_option linter.unusedSimpArgs false
namespace Go.Eng
structure Tm.small (t:Tm):Prop where
 name:len t.name<=1048576
 s:len t.s<=1073741824
 c:len t.c.s<=1048576
def F5(x:Fl):Prop:= ∀t∈x,t.small
structure NM (l:List Tk) (i:Int) (x:Tf) (j:Int):Prop where
 lt:i<j
 le:j<len l
 name:x.t.name=[]
 size:len x.flat<=j-i
 small:F5 x.flat
structure GG (i0 i:Int) (xs:List Tf):Prop where
 le:i0<=i
 size:len (AM xs)<=i-i0
 small:F5 (AM xs)
theorem GG.nil (i:Int):GG i i []:=⟨by omega,by show(0:Int)<=_;omega,λ t h=>by cases h⟩
theorem GG.mono {i0 i j:Int}{xs:List Tf}(h:GG i0 i xs)(hij:i<=j):GG i0 j xs:=⟨by have:=h.le;omega,by have:=h.size;omega,h.small⟩
theorem F5.app {a b:Fl}(ha:F5 a)(hb:F5 b):F5 (a++b):=λ t ht=>(List.mem_append.1 ht).elim (ha t) (hb t)
theorem F5.named {x:Tf}(h:F5 x.flat){n:A1}(hn:len n<=1048576):F5 (x.named n).flat:=by
 cases x with|mk t ps=>
 intro u hu
 rcases List.mem_cons.1 hu with rfl|hu
 ·have:=h { t with many:=len ps} (by unfold Tf.flat;exact List.mem_cons_self)
  exact⟨hn,this.s,this.c⟩
 ·exact h u (by unfold Tf.flat;exact List.mem_cons_of_mem _ hu)
theorem GG.snoc {l:List Tk}{i0 i j:Int}{xs:List Tf}{x:Tf}(h:GG i0 i xs)(hx:NM l i x j):GG i0 j (xs++[x]):=by
 have h1:=h.le
 have h2:=h.size
 have h3:=hx.lt
 have h4:=hx.size
 refine⟨by omega,?_,?_⟩
 ·rw[JG,A5];show _+len (x.flat++[])<=_;rw[List.append_nil];omega
 ·rw[JG];refine h.small.app ?_;show F5 (x.flat++[]);rw[List.append_nil];exact hx.small
theorem GG.mV {l:List Tk}{i0 i j:Int}{xs:List Tf}{x:Tf}(h:GG i0 i xs)(hx:NM l i x j){n:A1}(hn:len n<=1048576):GG i0 j (xs++[x.named n]):=by
 have h1:=h.le
 have h2:=h.size
 have h3:=hx.lt
 have h4:=hx.size
 refine⟨by omega,?_,?_⟩
 ·rw[JG,A5];show _+len ((x.named n).flat++[])<=_;rw[List.append_nil,Tf.yG];omega
 ·rw[JG];refine h.small.app ?_;show F5 ((x.named n).flat++[]);rw[List.append_nil];exact hx.small.named hn
theorem LG{t:Tm}{ps:List Tf}(ht:t.small)(h:F5 (AM ps)):F5 (Tf.mk t ps).flat:=λ u hu=>by
 unfold Tf.flat at hu
 rcases List.mem_cons.1 hu with rfl|hu
 ·exact⟨ht.name,ht.s,ht.c⟩
 ·exact h u hu
theorem I3(o:Int):(BJ o).small:=⟨by show len ([]:A1)<=_;decide,by show len ([]:A1)<=_;decide,by show len ([]:A1)<=_;decide⟩
theorem MQ(t:Tm)(ps:List Tf):len (Tf.mk t ps).flat=1+len (AM ps):=by unfold Tf.flat;rw[A6];omega
theorem MR(x:Tf):AM [x]=x.flat:=by show x.flat++[]=_;rw[List.append_nil]
theorem cH{a b:List Tf}(h:a.Perm b):(AM a).Perm (AM b):=by
 rw[RU,RU];exact(h.map Tf.flat).flatten
theorem mW(o:Int)(xs:List Tf):len (FQ o xs).flat=1+len (AM xs):=by
 unfold FQ;rw[MQ];have:=(cH (PX xs)).length_eq;unfold len;omega
theorem mX(o:Int){xs:List Tf}(h:F5 (AM xs)):F5 (FQ o xs).flat:=LG (t:= { BJ 2 with n:=o}) ⟨(I3 2).1,(I3 2).2,(I3 2).3⟩ λ u hu=>h u ((cH (PX xs)).mem_iff.1 hu)
theorem AJ1{l:List Tk}(ok:EO l){i:Int}{c:Nd}{j:Int}(h0:0<=i)(h1:i<len l)(h:GK l i= .ok c j):len c.s<=1048576:=by
 unfold GK at h
 have hm:=at_mem h0 h1
 split at h
 ·rename_i h5;cases h;exact(ok.num _ hm h5).1
 ·split at h
  ·cases h;exact ok.bd _ hm
  ·split at h
   ·cases h;show len ([]:A1)<=_;decide
   ·exact(DU h).elim
theorem mY{l:List Tk}(ok:EO l){i:Int}{x:Tf}{j:Int}(h0:0<=i)(h1:i<len l)(h:L4 l i= .ok x j):F5 x.flat:=by
 unfold L4 at h
 split at h
 ·rename_i q
  obtain⟨c,k,h2,h3⟩:=BM h
  cases h3
  have:=AJ1 ok (by omega) (IQ ok h0 h1 q.1 (by decide)) h2
  exact LG (t:=⟨9,0,[],[],_,c⟩) ⟨by show len ([]:A1)<=_;decide,by show len ([]:A1)<=_;decide,this⟩ λ u hu=>by cases hu
 ·exact(DU h).elim
theorem mZ{l:List Tk}(ok:EO l){i0:Int}: ∀(f:Nat) {xs:List Tf} {i:Int} {ys:List Tf} {j:Int},0<=i->i<len l->GG i0 i xs->KA f l xs i= .ok ys j->i<=j/\j<len l/\GG i0 j ys
 |0,xs,i,ys,j,_,_,_,h=>(DU h).elim
 |f+1,xs,i,ys,j,h0,h1,hg,h=>by
  unfold KA at h
  split at h
  ·rename_i hb
   have hj:=I2 ok h0 h1 hb
   obtain⟨x,k,h2,h3⟩:=BM h
   obtain⟨rfl,q1,q2,q3,q4⟩:=X3 ok (by omega) hj h2
   have hx:NM l i x (i+1+2):=⟨by omega,q1,q4,by rw[q2];show(1:Int)<=_;omega,mY ok (by omega) hj h2⟩
   have:=mZ ok f (by omega) q1 (hg.snoc hx) h3
   exact⟨by omega,this.2⟩
  ·cases h;exact⟨by omega,h1,hg⟩
theorem AJ2{l:List Tk}(ok:EO l){d i:Int}{x:Tf}{j:Int}(h0:0<=i)(h1:i<len l)(h:NH l d i= .ok x j):NM l i x j:=by
 unfold NH at h
 obtain⟨m0,i0,h2,h3⟩:=BM h
 obtain⟨rfl,h4,h5,h6⟩:=Go.Proofs.YtmjpjbmeamnfpaaGreatDoor.X1 ok h0 h1 (by omega) (by omega) h2
 obtain⟨m,k,h7,h8⟩:=BM h3
 obtain⟨h9,ha,hb,hc⟩:=lZ ok _ (by omega) h4 h5 h6 h7
 have ht:({ BJ 1 with n:=m}:Tm).small:=⟨(I3 1).1,(I3 1).2,(I3 1).3⟩
 split at h8
 ·obtain⟨_,k1,q1,q2⟩:=BM h8
  obtain⟨rfl,q3,_,_⟩:=IS ok (by omega) ha q1
  obtain⟨y,k2,q4,q5⟩:=BM q2
  obtain⟨rfl,q6,q7,_,q8⟩:=X3 ok (by omega) q3 q4
  obtain⟨ys,k3,q9,q10⟩:=BM q5
  have hy:NM l (k+1) y (k+1+2):=⟨by omega,q6,q8,by rw[q7];show(1:Int)<=_;omega,mY ok (by omega) q3 q4⟩
  obtain⟨r1,r2,r3⟩:=mZ ok _ (by omega) q6 ((GG.nil (k+1)).snoc hy) q9
  obtain⟨_,k4,r4,r5⟩:=BM q10
  obtain⟨rfl,r6,_⟩:=GB ok (by omega) r2 r4
  cases r5
  exact⟨by omega,r6,rfl,by unfold L5;rw[MQ];have:=r3.size;omega,LG ht r3.small⟩
 ·cases h8
  exact⟨by omega,ha,rfl,by unfold L5;rw[MQ];show 1+(0:Int)<=_;omega,LG ht λ u hu=>by cases hu⟩
theorem n7{p:List Sp}(h:L8 p):len (FP AE p)<=200000000:=by
 have h1:=Go.Proofs.YtmjpjbmeamnfpaaGreatDoor.WZ h p.length (Int.le_refl _)
 rw[L7 (show len p<=(p.length:Int)from Int.le_refl _)]at h1
 have h20:(p.length:Int)<=20:=h.1
 unfold FP
 rw[A5]
 have h2:len (Go.Proofs.YtmjpjbmeamnfpaaGreatDoor.GC p)=len (p.map (FE AE)).flatten:=rfl
 rw[h2]at h1
 have:len (if p=[]\/(at' p 0).part=true then([46]:A1)else [])<=1:=by split<;>decide
 omega
theorem AJ3{l:List Tk}(ok:EO l){i:Int}{xs:List Sp}{j:Int}(h0:0<=i)(h1:i<len l)(h:LD l i= .ok xs j):L8 xs:=by
 unfold LD at h
 split at h
 ·rename_i hb
  exact(RW ok _ _ _ (by omega) (I2 ok h0 h1 hb) .nil h).2.2
 ·split at h
  ·exact(DU h).elim
  ·exact(RW ok _ _ _ h0 h1 .nil h).2.2
structure AJ4 (rt:Tf->Bool) (l:List Tk) (f:Nat):Prop where
 ty: ∀d i x j,0<=i->i<len l->C3 AE rt f l d i= .ok x j->NM l i x j
 wd: ∀d i x j,0<=i->i<len l->(at' l i).kind=2->JE AE rt f l d i= .ok x j->NM l i x j
 tup: ∀d i0 i xs x j,0<=i->i<len l->GG i0 i xs->HG AE rt f l d xs i= .ok x j->i<=j/\j<len l/\x.t.name=[]/\len x.flat<=1+(j-i0)/\F5 x.flat
 obj: ∀d i0 i xs x j,0<=i->i<len l->GG i0 i xs->FT AE rt f l d xs i= .ok x j->i<j/\j<len l/\x.t.name=[]/\len x.flat<=1+(j-i0)/\F5 x.flat
theorem n8{rt:Tf->Bool}{l:List Tk}(ok:EO l){kd i:Int}{X:Int->PR Tf}{x:Tf}{j:Int}(h0:0<=i)(h1:i<len l)(hX: ∀k y m,0<=k->k<len l->X k= .ok y m->NM l k y m)(h:GN AE rt l kd i X= .ok x j):i<j/\j<len l/\x.t.name=[]/\len x.flat<=j-i/\F5 x.flat:=by
 unfold GN at h
 obtain⟨s,k1,h2,h3⟩:=BM h
 rw[cA]at h2
 obtain⟨p,k1',h4,h5⟩:=BM h2
 cases h5
 obtain⟨h6,h7⟩:=lY ok h0 h1 h4
 have hp:=AJ3 ok h0 h1 h4
 obtain⟨_,k2,h8,h9⟩:=BM h3
 obtain⟨rfl,ha,_⟩:=GB ok (by omega) h7 h8
 obtain⟨y,k3,hb,hc⟩:=BM h9
 have gy:=hX _ _ _ (by omega) ha hb
 have:=gy.lt
 have:=gy.size
 obtain⟨_,k4,hd,he⟩:=BM hc
 obtain⟨rfl,hf,_⟩:=GB ok (by omega) gy.le hd
 split at he
 ·cases he
  have hpl:=n7 hp
  exact⟨by omega,hf,rfl,by rw[MQ,MR];omega,LG ⟨(I3 kd).1,by show len (FP AE p)<=_;omega,(I3 kd).3⟩ (by rw[MR];exact gy.small)⟩
 ·exact(DU he).elim
theorem MS(rt:Tf->Bool){l:List Tk}(ok:EO l): ∀f,AJ4 rt l f
 |0=>⟨λ _ _ _ _ _ _ h=>(DU h).elim,λ _ _ _ _ _ _ _ h=>(DU h).elim,λ _ _ _ _ _ _ _ _ _ h=>(DU h).elim,λ _ _ _ _ _ _ _ _ _ h=>(DU h).elim⟩
 |f+1=>by
  have ih:=MS rt ok f
  constructor
  ·intro d i x j h0 h1 h
   rw[C3]at h
   split at h
   ·rename_i hk;exact ih.wd d i x j h0 h1 hk h
   ·split at h
    ·obtain⟨_,k,h2,h3⟩:=BM h
     obtain⟨rfl,h4,_,_⟩:=IS ok h0 h1 h2
     obtain⟨q1,q2,q3,q4,q5⟩:=ih.obj (d+1) (i+1) (i+1) [] x j (by omega) h4 (.nil _) h3
     exact⟨by omega,q2,q3,by omega,q5⟩
    ·obtain⟨_,k,h2,h3⟩:=BM h
     obtain⟨rfl,h4,_,_⟩:=IS ok h0 h1 h2
     obtain⟨y,m,h5,h6⟩:=BM h3
     have gy:=ih.ty _ _ _ _ (by omega) h4 h5
     have:=gy.lt
     have:=gy.size
     obtain⟨_,n,h7,h8⟩:=BM h6
     obtain⟨rfl,h9,_⟩:=GB ok (by omega) gy.le h7
     cases h8
     exact⟨by omega,h9,rfl,by rw[MQ,MR];omega,LG (I3 5) (by rw[MR];exact gy.small)⟩
  ·intro d i x j h0 h1 hk h
   have hi1:=IQ ok h0 h1 hk (by decide)
   rw[JE]at h
   split at h
   ·cases h
    exact⟨by omega,hi1,rfl,by rw[MQ];show 1+(0:Int)<=_;omega,LG (I3 0) λ u hu=>by cases hu⟩
   ·split at h
    ·obtain⟨_,k,h2,h3⟩:=BM h
     obtain⟨rfl,h4,_,_⟩:=IS ok (by omega) hi1 h2
     obtain⟨y,m,h5,h6⟩:=BM h3
     obtain⟨q1,q2,q3,q4,q5⟩:=ih.tup (d+1) (i+1+1) (i+1+1) [] y m (by omega) h4 (.nil _) h5
     obtain⟨_,n,h7,h8⟩:=BM h6
     obtain⟨rfl,h9,_⟩:=GB ok (by omega) q2 h7
     cases h8
     exact⟨by omega,h9,q3,by omega,q5⟩
    ·split at h
     ·obtain⟨_,k,h2,h3⟩:=BM h
      obtain⟨rfl,h4,_,_⟩:=IS ok (by omega) hi1 h2
      obtain⟨y,m,h5,h6⟩:=BM h3
      have gy:=ih.ty _ _ _ _ (by omega) h4 h5
      have:=gy.lt
      have:=gy.size
      obtain⟨_,n,h7,h8⟩:=BM h6
      obtain⟨rfl,h9,_⟩:=GB ok (by omega) gy.le h7
      cases h8
      exact⟨by omega,h9,rfl,by rw[MQ,MR];omega,LG (I3 6) (by rw[MR];exact gy.small)⟩
     ·split at h
      ·obtain⟨_,k,h2,h3⟩:=BM h
       obtain⟨rfl,h4,_,_⟩:=IS ok (by omega) hi1 h2
       obtain⟨q1,q2,q3,q4,q5⟩:=n8 ok (by omega) h4 (λ k y m=>ih.ty (d+1) k y m) h3
       exact⟨by omega,q2,q3,by omega,q5⟩
      ·split at h
       ·obtain⟨_,k,h2,h3⟩:=BM h
        obtain⟨rfl,h4,_,_⟩:=IS ok (by omega) hi1 h2
        obtain⟨q1,q2,q3,q4,q5⟩:=n8 ok (by omega) h4 (λ k y m=>ih.ty (d+1) k y m) h3
        exact⟨by omega,q2,q3,by omega,q5⟩
       ·exact AJ2 ok h0 h1 h
  ·intro d i0 i xs x j h0 h1 hg h
   rw[HG]at h
   split at h
   ·cases h
    exact⟨by omega,h1,rfl,by rw[MQ];have:=hg.size;omega,LG (I3 4) hg.small⟩
   ·obtain⟨_,k,h2,h3⟩:=BM h
    have hk:i<=k/\k<len l:=by
     split at h2
     ·cases h2;exact⟨by omega,h1⟩
     ·obtain⟨rfl,h4,_⟩:=GB ok h0 h1 h2;exact⟨by omega,h4⟩
    obtain⟨y,m,h5,h6⟩:=BM h3
    have gy:=ih.ty _ _ _ _ (by omega) hk.2 h5
    have:=gy.lt
    obtain⟨q1,q2⟩:=ih.tup d i0 m (xs++[y]) x j (by omega) gy.le ((hg.mono hk.1).snoc gy) h6
    exact⟨by omega,q2⟩
  ·intro d i0 i xs x j h0 h1 hg h
   have hsz:=hg.size
   rw[FT]at h
   split at h
   ·rename_i hm
    cases h
    exact⟨by omega,I2 ok h0 h1 hm,rfl,by rw[mW];omega,mX 0 hg.small⟩
   ·obtain⟨_,k,h2,h3⟩:=BM h
    have hk:i<=k/\k<len l:=by
     split at h2
     ·cases h2;exact⟨by omega,h1⟩
     ·obtain⟨rfl,h4,_⟩:=GB ok h0 h1 h2;exact⟨by omega,h4⟩
    split at h3
    ·rename_i hm
     have hk1:=I2 ok (by omega) hk.2 hm
     split at h3
     ·rename_i hc
      have hc2:AG l (k+1) [58]=true:=by rw[Bool.and_eq_true]at hc;exact hc.2
      have hk2:=I2 ok (by omega) hk1 hc2
      obtain⟨y,m,h5,h6⟩:=BM h3
      have gy:=ih.ty _ _ _ _ (by omega) (by omega) h5
      have:=gy.lt
      have:=gy.size
      have:=hg.le
      obtain⟨_,n,h7,h8⟩:=BM h6
      obtain⟨rfl,h9,_⟩:=GB ok (by omega) gy.le h7
      cases h8
      exact⟨by omega,h9,rfl,by rw[MQ,MR];omega,LG (I3 3) (by rw[MR];exact gy.small)⟩
     ·obtain⟨_,n,h7,h8⟩:=BM h3
      obtain⟨rfl,h9,_⟩:=GB ok (by omega) hk1 h7
      cases h8
      exact⟨by omega,h9,rfl,by rw[mW];omega,mX 1 hg.small⟩
    ·split at h3
     ·exact(DU h3).elim
     ·rename_i hc
      have hkd:(at' l k).kind≠6:=λ e=>hc (.inl (by rw[e];decide))
      have hk1:=ok.last k (by omega) hk.2 hkd
      have hnm:=ok.bd _ (at_mem (l:=l) (k:=k) (by omega) hk.2)
      obtain⟨_,n,h7,h8⟩:=BM h3
      obtain⟨rfl,h9,_⟩:=GB ok (by omega) hk1 h7
      obtain⟨y,m,h5,h6⟩:=BM h8
      have gy:=ih.ty _ _ _ _ (by omega) h9 h5
      have:=gy.lt
      obtain⟨q1,q2⟩:=ih.obj d i0 m (xs++[y.named (at' l k).s]) x j (by omega) gy.le ((hg.mono (j:=k+1+1) (by omega)).mV gy hnm) h6
      exact⟨by omega,q2⟩
end Go.Eng
set_option maxRecDepth 100000
namespace Go.Proofs.YtmjpjbmeamnfpaaGreatDoor
open Go.Proofs.Tryz
open Go.Eng
abbrev S3:List Tk->Int->Prop:=λ _ _=>True
def NN(rt:Tf->Bool):Prop:= ∀ {w:World} {M:Mem} (v:Value) (x:Tf),Sat w M->Gl w->Sl M 11 x.flat.length v (x.flat.flatMap Tm.cells)->len x.flat<=1048577->F5 x.flat->
 Calls prog 176 [v].toArray w λ e w'=>e= .returned (.bool (rt x))/\Ext w w'
abbrev OR(k:Int)(fn:FuncId)(tw:List Tk->Int->Int->PR Tf)(f:Nat)(P:List Tk->Int->Prop):Prop:=
 ∀ {w0 wv:World} {M0 M:Mem} {Rs:List HO} {b:Nat} {v:Value} {l:List Tk} {i d:Int},HI w0 wv M0 M Rs b v l i d->0<=d->d<=64->4*(len l-i)+k<=(f:Int)->P l i->
  Calls prog fn [.pointer (some ⟨b,0,none⟩)].toArray wv (OQ w0 M0 M Rs b v d (tw l d i))
structure JI (rt:Tf->Bool) (f:Nat):Prop where
 rd:OR 2 40 (C3 AE rt f) f S3
 wd:OR 1 62 (JE AE rt f) f λ l i=>(at' l i).kind=2
def n9(rt:Tf->Bool)(f:Nat)(l:List Tk)(d i:Int):PR Tf:=(EA l d i [91]).bind λ _ j=>(C3 AE rt f l (d+1) j).bind λ x k=>(B6 l k [93]).bind λ _ m=>.ok (.mk (BJ 5) [x]) m
theorem AJ5{rt:Tf->Bool}{f:Nat}(H:JI rt f):OR (-2) 65 (n9 rt f) f S3:=by
 intro w0 wv M0 M Rs b v l i d h hd0 hd hf _
 obtain⟨hS,hl,hg,ok,h0,h1⟩:=h
 have hfew:=ok.few
 refine AU (Hr:=Rs) AP func65 U ntmps65 [(0,kn v 9 l Tk.cells)] [(0,AV b v i d)] [.bx 0 b 0] U hS (fc 0 hl (λ _=>rfl) AA) (λ B hB=>?_) U
 refine C9 [0] [] (λ _ (_:Unit)=>.tu []) (λ _ j _=>[(0,AV b v j (d+1))]) hB U (A0 U) U U call95 U U (A0 U) U (List.Sublist.refl _) (λ w M hS hF=>PT [91] ⟨hS,(hF.get (k:=0) U).sl,hg,ok,h0,h1⟩ ⟨hd0,hd⟩) (λ _ _=>rfl) (λ _ _ _=>rfl) λ _ k hk hB _ _=>?_
 obtain⟨rfl,hk1,hd2,_⟩:=IS ok h0 h1 hk
 refine C9 [0] [] (λ _ (h:AX)=>.sl 7 h.v) (λ x j h=>[(0,AV b v j (d+1)),(7,DF h.v x.flat)]) hB U (A0 U) U U call40 U U (A0 U) U (List.Sublist.refl _) (λ w M hS hF=>H.rd ⟨hS,(hF.get (k:=0) U).sl,hg,ok,by omega,hk1⟩ (by omega) (by omega) (by omega) trivial) (λ _ _=>rfl) (λ _ _ _=>rfl) λ x j hx hB h7 _=>?_
 have gx:=(MS rt ok f).ty _ _ _ _ (by omega) hk1 hx
 have hlt:=gx.lt
 have hsz:=gx.size
 have hle:=gx.le
 refine C9 [0] [] (λ _ (_:Unit)=>.tu []) (λ _ j _=>[(0,AV b v j d)]) hB U (A0 U) U U call96 U U (A0 U) U (List.sublist_cons_self _ _) (λ w M hS hF=>PU [93] ⟨hS,(hF.get (k:=0) U).sl,hg,ok,by omega,hle⟩ (by omega) (by omega)) (λ _ _=>rfl) (λ _ _ _=>rfl) λ _ n hn hB _ _=>?_
 refine J7 7 U ?_
 refine DS 9 [h7] DN 1 36 GO U (A0 U) U U (A0 U) (λ w=>by kernel_rfl) U λ v9=>?_
 refine BQ [] (λ h:AX=>.sl 10 h.v) [] (λ u=>[(10,DF u.v (Tf.mk (BJ 5) [x]).flat)]) U (A0 U) U U call99 U U (A0 U) U (λ w M hS hF=>X7 (BJ 5) v9 h7 x hS (hF.get (k:=9) U).sl (hF.get (k:=7) U).sl (by omega)) (λ _=>rfl) (λ _=>rfl) λ h10 _=>?_
 exact A9 hB U U (A0 U) U U (A0 U) λ w M' hX=>⟨h10,M',rfl,trivial,hX.le,hX.CQ [0,10] U,AA⟩
def cI(rt:Tf->Bool)(f:Nat)(l:List Tk)(d i:Int):PR Tf:=(C3 AE rt f l d i).bind λ x k=>.ok (.mk (BJ 6) [x]) k
theorem AJ6{rt:Tf->Bool}{f:Nat}(H:JI rt f):OR 2 91 (cI rt f) f S3:=by
 intro w0 wv M0 M Rs b v l i d h hd0 hd hf _
 obtain⟨hS,hl,hg,ok,h0,h1⟩:=h
 have hfew:=ok.few
 refine AU (Hr:=Rs) AP func91 U ntmps91 [(0,kn v 9 l Tk.cells)] [(0,AV b v i d)] [.bx 0 b 0] U hS (fc 0 hl (λ _=>rfl) AA) (λ B hB=>?_) U
 refine C9 [0] [] (λ _ (h:AX)=>.sl 7 h.v) (λ x j h=>[(0,AV b v j d),(7,DF h.v x.flat)]) hB U (A0 U) U U call40 U U (A0 U) U (List.Sublist.refl _) (λ w M hS hF=>H.rd ⟨hS,(hF.get (k:=0) U).sl,hg,ok,by omega,h1⟩ (by omega) (by omega) (by omega) trivial) (λ _ _=>rfl) (λ _ _ _=>rfl) λ x j hx hB h7 _=>?_
 have gx:=(MS rt ok f).ty _ _ _ _ (by omega) h1 hx
 have hlt:=gx.lt
 have hsz:=gx.size
 have hle:=gx.le
 refine J7 7 U ?_
 refine DS 9 [h7] DN 1 36 GO U (A0 U) U U (A0 U) (λ w=>by kernel_rfl) U λ v9=>?_
 refine BQ [] (λ h:AX=>.sl 10 h.v) [] (λ u=>[(10,DF u.v (Tf.mk (BJ 6) [x]).flat)]) U (A0 U) U U call99 U U (A0 U) U (λ w M hS hF=>X7 (BJ 6) v9 h7 x hS (hF.get (k:=9) U).sl (hF.get (k:=7) U).sl (by omega)) (λ _=>rfl) (λ _=>rfl) λ h10 _=>?_
 exact A9 hB U U (A0 U) U U (A0 U) λ w M' hX=>⟨h10,M',rfl,trivial,hX.le,hX.CQ [0,10] U,AA⟩
theorem nA{rt:Tf->Bool}{f:Nat}(hrt:NN rt)(H:JI rt f)(kd:Int){w0 wv:World}{M0 M:Mem}{Rs:List HO}{b:Nat}{v:Value}{l:List Tk}{i d:Int}(h:HI w0 wv M0 M Rs b v l i d)(hd0:0<d)(hd:d<=64)(hf:4*(len l-i)+2<=(f:Int)):
   Calls prog 135 [.pointer (some ⟨b,0,none⟩),i64 kd].toArray wv (OQ w0 M0 M Rs b v (d-1) (GN AE rt l kd i (C3 AE rt f l d))):=by
 obtain⟨hS,hl,hg,ok,h0,h1⟩:=h
 have hfew:=ok.few
 refine AU (Hr:=Rs) AP func135 U ntmps135 [(0,kn v 9 l Tk.cells)] [(0,AV b v i d)] [.bx 0 b 0,I kd] U hS (fc 0 hl (λ _=>rfl) AA) (λ B hB=>?_) U
 unfold GN at hB
 rw[cA,PR.assoc]at hB
 refine CZ [0] (EB (at' l i)) U (A0 U) U call41 U U (A0 U) U (λ _ w M hS hF=>EN hS (hF.get (k:=0) U).sl h0 h1) U ?_
 refine CU 5 U (A0 U) U zeroValue63 U λ b5=>?_
 refine C9 [0] [6] (λ _ (u:Value)=>.sl 6 u) (λ _ j _=>[(0,AV b v j d)]) hB U (A0 U) U U call174 U U (A0 U) U (List.sublist_cons_self _ _) (λ w M hS hF=>AG1 ⟨hS,(hF.get (k:=0) U).sl,hg,ok,h0,h1⟩) (λ _ _=>rfl) (λ _ _ _=>rfl) λ p j hp hB v6 hps=>?_
 obtain⟨hj0,hj1⟩:=lY ok h0 h1 hp
 rw[PR.JH]at hB
 refine C9 [0] [] (λ _ (_:Unit)=>.tu []) (λ _ j _=>[(0,AV b v j d)]) hB U (A0 U) U U call97 U U (A0 U) U (List.sublist_cons_self _ _) (λ w M hS hF=>RP [44] hS (hF.get (k:=0) U).sl (by omega) hj1 (by omega)) (λ _ _=>rfl) (λ _ _ _=>rfl) λ _ k hk hB _ _=>?_
 obtain⟨rfl,hk1,_⟩:=GB ok (by omega) hj1 hk
 refine C9 [0] [] (λ _ (h:AX)=>.sl 7 h.v) (λ x j h=>[(0,AV b v j d),(7,DF h.v x.flat)]) hB U (A0 U) U U call40 U U (A0 U) U (List.sublist_cons_self _ _) (λ w M hS hF=>H.rd ⟨hS,(hF.get (k:=0) U).sl,hg,ok,by omega,hk1⟩ (by omega) (by omega) (by omega) trivial) (λ _ _=>rfl) (λ _ _ _=>rfl) λ x m hx hB h7 _=>?_
 have gx:=(MS rt ok f).ty _ _ _ _ (by omega) hk1 hx
 have hlt:=gx.lt
 have hsz:=gx.size
 have hle:=gx.le
 refine C9 [0] [] (λ _ (_:Unit)=>.tu []) (λ _ j _=>[(0,AV b v j (d-1))]) hB U (A0 U) U U call96 U U (A0 U) U KD (λ w M hS hF=>PU [41] ⟨hS,(hF.get (k:=0) U).sl,hg,ok,by omega,hle⟩ (by omega) U) (λ _ _=>rfl) (λ _ _ _=>rfl) λ _ n hn hB _ _=>?_
 refine AY U (A0 U) U call175 U U (A0 U) (λ _ w M hX=>AE5 v6 p hX.st.sat (hg.low hX.st.low) (hX.sl 6 U) hps) U ?_
 refine J7 7 U ?_
 refine DS 9 [h7] DN 1 36 GO U (A0 U) U U (A0 U) (λ w=>by kernel_rfl) U λ v9=>?_
 refine BQ [] (λ h:AX=>.sl 10 h.v) [] (λ u=>[(10,DF u.v (Tf.mk { BJ kd with s:=FP AE p} [x]).flat)]) U (A0 U) U U call99 U U (A0 U) U (λ w M hS hF=>X7 { BJ kd with s:=FP AE p} v9 h7 x hS (hF.get (k:=9) U).sl (hF.get (k:=7) U).sl (by omega)) (λ _=>rfl) (λ _=>rfl) λ h10 _=>?_
 have hpl:=n7 hps
 have hxn:x.named []=x:=Tf.jV gx.name
 rw[hxn]at hB
 refine AY U (A0 U) U call176 U U (A0 U) (λ _ w M hX=>by
  have ht:=hX.st.told (k:=0) U
  exact hrt h10.v (Tf.mk { BJ kd with s:=FP AE p} [x]) ht.sat (hg.low hX.st.low) (ht.sl (i:=0) U) (by rw[MQ,MR];omega) (LG ⟨(I3 kd).1,by show len (FP AE p)<=_;omega,(I3 kd).3⟩ (by rw[MR];exact gx.small))) U ?_
 refine A7 U (A0 U) U (λ hb1=>?_) (λ hb1=>?_)<;>simp only[zb]at hb1
 ·rw[if_neg (by rw[hb1];decide)]at hB
  exact GM [0] U (A0 U) U U call42 U (A0 U) U (λ w M hS hF=>JF (at' l i) 1 hS) λ a w M hs hS hle=>EW _ (hB.p ⟨M,rfl,hS.drop _ (List.sublist_append_right _ Rs),hle⟩ a hs)
 ·rw[if_pos hb1]at hB
  exact A9 hB U U (A0 U) U U (A0 U) λ w M' hX=>⟨h10,M',rfl,trivial,hX.le,hX.CQ [0,10] U,AA⟩
theorem AJ7{rt:Tf->Bool}{f:Nat}(hrt:NN rt)(H:JI rt f){w0 wv:World}{M0 M:Mem}{Rs:List HO}{b:Nat}{v:Value}{l:List Tk}{i d:Int}(h:HI w0 wv M0 M Rs b v l i d)(hd0:0<d)(hd:d<=64)(hf:4*(len l-i)+2<=(f:Int)):
  Calls prog 92 [.pointer (some ⟨b,0,none⟩)].toArray wv (OQ w0 M0 M Rs b v (d-1) (GN AE rt l 7 i (C3 AE rt f l d))):=by
 obtain⟨hS,hl,hg,ok,h0,h1⟩:=h
 refine AU (Hr:=Rs) AP func92 U ntmps92 [(0,kn v 9 l Tk.cells)] [(0,AV b v i d)] [.bx 0 b 0] U hS (fc 0 hl (λ _=>rfl) AA) (λ B hB=>?_) U
 rw[<-PR.ret (GN AE rt l 7 i (C3 AE rt f l d))]at hB
 refine C9 [0] [] (λ _ (h:AX)=>.sl 7 h.v) (λ x j h=>[(0,AV b v j (d-1)),(7,DF h.v x.flat)]) hB U (A0 U) U U call135 U U (A0 U) U (List.Sublist.refl _) (λ w M hS hF=>nA hrt H 7 ⟨hS,(hF.get (k:=0) U).sl,hg,ok,h0,h1⟩ hd0 hd hf) (λ _ _=>rfl) (λ _ _ _=>rfl) λ x j hx hB h7 _=>?_
 exact A9 hB U U (A0 U) U U (A0 U) λ w M' hX=>⟨h7,M',rfl,trivial,hX.le,hX.CQ [0,7] U,AA⟩
theorem AJ8{rt:Tf->Bool}{f:Nat}(hrt:NN rt)(H:JI rt f){w0 wv:World}{M0 M:Mem}{Rs:List HO}{b:Nat}{v:Value}{l:List Tk}{i d:Int}(h:HI w0 wv M0 M Rs b v l i d)(hd0:0<d)(hd:d<=64)(hf:4*(len l-i)+2<=(f:Int)):
  Calls prog 93 [.pointer (some ⟨b,0,none⟩)].toArray wv (OQ w0 M0 M Rs b v (d-1) (GN AE rt l 8 i (C3 AE rt f l d))):=by
 obtain⟨hS,hl,hg,ok,h0,h1⟩:=h
 refine AU (Hr:=Rs) AP func93 U ntmps93 [(0,kn v 9 l Tk.cells)] [(0,AV b v i d)] [.bx 0 b 0] U hS (fc 0 hl (λ _=>rfl) AA) (λ B hB=>?_) U
 rw[<-PR.ret (GN AE rt l 8 i (C3 AE rt f l d))]at hB
 refine C9 [0] [] (λ _ (h:AX)=>.sl 7 h.v) (λ x j h=>[(0,AV b v j (d-1)),(7,DF h.v x.flat)]) hB U (A0 U) U U call135 U U (A0 U) U (List.Sublist.refl _) (λ w M hS hF=>nA hrt H 8 ⟨hS,(hF.get (k:=0) U).sl,hg,ok,h0,h1⟩ hd0 hd hf) (λ _ _=>rfl) (λ _ _ _=>rfl) λ x j hx hB h7 _=>?_
 exact A9 hB U U (A0 U) U U (A0 U) λ w M' hX=>⟨h7,M',rfl,trivial,hX.le,hX.CQ [0,7] U,AA⟩
theorem AJ9{rt:Tf->Bool}{f:Nat}(H: ∀g,g<=f->JI rt g):OR 3 90 (λ l d i=>HG AE rt f l d [] i) f S3:=by
 intro w0 wv M0 M Rs b v l i d h hd0 hd hf _
 obtain⟨hS,hl,hg,ok,h0,h1⟩:=h
 have hfew:=ok.few
 refine AU (Hr:=Rs) AP func90 U ntmps90 [(0,kn v 9 l Tk.cells)] [(0,AV b v i d)] [.bx 0 b 0] U hS (fc 0 hl (λ _=>rfl) AA) (λ B hB=>?_) U
 dsimp only at hB
 generalize hR:HG AE rt f l d [] i=R at hB
 refine CX U (A0 U) U ?_
 refine TB 6 3 36 1 DN GO U ?_
 refine IK 8 (KE [] []) (λ w M hX=>⟨Sl.nil M 1,DZ,trivial⟩) ?_
 refine CD (σ:=Int×Value×List AX×List Tf×Bool×Nat) (λ(j,u,hs,xs,fi,q)=>⟨[(0,kn v 9 l Tk.cells),(6,kn u 1 hs DN),(8,KE hs (xs.map Tf.flat))],[(0,AV b v j d),(6,.ho (.own 36 1 u hs.length (hs.flatMap DN)))],[Z 0 (.bx 0 b 0),Z 3 (.sl 6 u),Z 4 (.v (.bool fi))]⟩)
   (λ(j,u,hs,xs,fi,q)=>0<=j/\j<len l/\GG i j xs/\hs.length=xs.length/\xs.isEmpty=fi/\len xs<=j-i/\4*(len l-j)+3<=(q:Int)/\q<=f/\HG AE rt q l d xs j=R) (λ(j,u,hs,xs,fi,q)=>(len l-j).toNat) (i,.slice none 0 0,[],[],true,f) U (A0 U) U U ⟨h0,h1,.nil i,rfl,rfl,by show(0:Int)<=_;omega,hf,Nat.le_refl _,hR⟩ ?_
 rintro⟨j,u,hs,xs,fi,q⟩ ⟨hj0,hj1,hgs,hhl,hfi,hxl,hq,hqf,hst⟩
 cases q with
 |zero=>exfalso;omega
 |succ q=>
 rw[HG]at hst
 refine CZ [0] (.v (.bool (AG l j [41]))) U (A0 U) U call63 U U (A0 U) U (λ _ w M hS hF=>KB [41] hS (hF.get (k:=0) U).sl hj0 hj1) U ?_
 refine A7 U (A0 U) U (λ hb1=>?_) (λ hb1=>?_)
 ·have hb:AG l j [41]=false:=by simpa using hb1
  rw[if_neg (by rw[hb];decide)]at hst
  rw[<-hst]at hB
  refine ES 0 (λ s=> ∃j',j<=j'/\j'<len l/\((C3 AE rt q l d j').bind λ x m=>HG AE rt q l d (xs++[x]) m)=R/\s=⟨[(0,kn v 9 l Tk.cells),(6,kn u 1 hs DN),(8,KE hs (xs.map Tf.flat))],[(0,AV b v j' d),(6,.ho (.own 36 1 u hs.length (hs.flatMap DN)))],[Z 0 (.bx 0 b 0),Z 3 (.sl 6 u),Z 4 (.v (.bool fi))]⟩) U (A0 U) U U (λ hb2=>?_) (λ hb2=>?_) ?_
  ·have hf2:fi=false:=by simpa using hb2
   rw[hfi,hf2,if_neg (by decide)]at hB hst
   refine C9 [0] [] (λ _ (_:Unit)=>.tu []) (λ _ j _=>[(0,AV b v j d)]) hB U (A0 U) U U call97 U U (A0 U) U (List.sublist_cons_self _ _) (λ w M hS hF=>RP [44] hS (hF.get (k:=0) U).sl hj0 hj1 (by omega)) (λ _ _=>rfl) (λ _ _ _=>rfl) λ _ k hk hB _ _=>?_
   obtain⟨rfl,hk1,_⟩:=GB ok hj0 hj1 hk
   rw[hk,PR.JH]at hst
   exact B5 _ U (A0 U) U U ⟨j+1,by omega,hk1,hst,rfl⟩
  ·have hf2:fi=true:=by simpa using hb2
   rw[hfi,hf2,if_pos U,PR.JH]at hst
   exact B5 _ U (A0 U) U U ⟨j,by omega,hj1,hst,rfl⟩
  rintro s ⟨j',hjj,hj2,hR2,rfl⟩
  rw[hst,<-hR2]at hB
  refine C9 [0] [] (λ _ (h:AX)=>.sl 7 h.v) (λ x j h=>[(0,AV b v j d),(7,DF h.v x.flat)]) hB U (A0 U) U U call40 U U (A0 U) U (List.sublist_cons_self _ _) (λ w M hS hF=>(H q (by omega)).rd ⟨hS,(hF.get (k:=0) U).sl,hg,ok,by omega,hj2⟩ hd0 hd (by omega) trivial) (λ _ _=>rfl) (λ _ _ _=>rfl) λ x m hx hB h7 _=>?_
  have gx:=(MS rt ok q).ty _ _ _ _ (by omega) hj2 hx
  have hlt:=gx.lt
  have hle:=gx.le
  rw[hx,PR.JH]at hR2
  refine J7 7 U ?_
  refine DS 9 [h7] DN 1 36 GO U (A0 U) U U (A0 U) (λ w=>by kernel_rfl) U λ v9=>?_
  refine ME 24 U (A0 U) U U (A0 U) U underlying43 type36 U U WE (by simp only[A6,len_nil];unfold len at*;omega) λ v'=>?_
  refine IK 8 (KE (hs++[h7]) ((xs++[x]).map Tf.flat)) (λ w M hX=>⟨Sl.nil M 1,DZ,by rw[List.map_append];exact D1.snoc (hX.sl 7 U) (hX.f.get (k:=8) U).more⟩) ?_
  exact C7 (m,v',hs++[h7],xs++[x],false,q) U (A0 U) U U ⟨by omega,hle,(hgs.mono hjj).snoc gx,by simp[hhl],by simp,by rw[A5];show len xs+1<=_;omega,by omega,by omega,hR2⟩ (by show Int.toNat _<Int.toNat _;omega)
 have hb:AG l j [41]=true:=by simpa using hb1
 rw[if_pos hb]at hst
 rw[<-hst]at hB
 have hsz:=hgs.size
 refine BQ [] (λ h:AX=>.sl 10 h.v) [] (λ u=>[(10,DF u.v (Tf.mk (BJ 4) xs).flat)]) U (A0 U) U U call99 U U (A0 U) U (λ w M hS hF=>AJ0 (BJ 4) u hs xs hS (hF.get (k:=6) U).sl (hF.get (k:=8) U).more (by omega) (by omega)) (λ _=>rfl) (λ _=>rfl) λ h10 _=>?_
 exact A9 hB U U (A0 U) U U (A0 U) λ w M' hX=>⟨h10,M',rfl,trivial,hX.le,hX.CQ [0,10] U,AA⟩
end Go.Proofs.YtmjpjbmeamnfpaaGreatDoor
namespace Go.Proofs
open Go.Shelf
def Tryz.AK0:Go.Shelf.Ren:=⟨λ |190=>100|125=>141|258=>140|128=>189|129=>190|302=>180|303=>181|304=>182|305=>183|306=>184|307=>185|308=>186|309=>187|310=>188|333=>228|329=>229|330=>230|334=>231|335=>232|336=>233|344=>260|n=>n,λ |31=>32|9=>9|3=>3|46=>192|0=>0|51=>93|53=>230|4=>4|183=>223|182=>222|131=>207|5=>5|218=>265|222=>269|228=>293|229=>215|n=>n,λ |n=>n⟩
theorem Tryz.nC:Go.Proofs.Lays.n190 prog Tryz.AK0:= {
 mixed:=by kernel_rfl
 f125:=func141.trans (congrArg some (by kernel_rfl))
 f128:=func189.trans (congrArg some (by kernel_rfl))
 f129:=func190.trans (congrArg some (by kernel_rfl))
 f190:=func100.trans (congrArg some (by kernel_rfl))
 f258:=func140.trans (congrArg some (by kernel_rfl))
 f302:=func180.trans (congrArg some (by kernel_rfl))
 f303:=func181.trans (congrArg some (by kernel_rfl))
 f304:=func182.trans (congrArg some (by kernel_rfl))
 f305:=func183.trans (congrArg some (by kernel_rfl))
 f306:=func184.trans (congrArg some (by kernel_rfl))
 f307:=func185.trans (congrArg some (by kernel_rfl))
 f308:=func186.trans (congrArg some (by kernel_rfl))
 f309:=func187.trans (congrArg some (by kernel_rfl))
 f310:=func188.trans (congrArg some (by kernel_rfl))
 f329:=func229.trans (congrArg some (by kernel_rfl))
 f330:=func230.trans (congrArg some (by kernel_rfl))
 f333:=func228.trans (congrArg some (by kernel_rfl))
 f334:=func231.trans (congrArg some (by kernel_rfl))
 f335:=func232.trans (congrArg some (by kernel_rfl))
 f336:=func233.trans (congrArg some (by kernel_rfl))
 f344:=func260.trans (congrArg some (by kernel_rfl))
 t0:=underlying0
 a0:=isAgg0
 z0:=sizeOf0
 v0:=zeroValue0
 t3:=underlying3
 a3:=isAgg3
 z3:=sizeOf3
 v3:=zeroValue3
 t4:=underlying4
 a4:=isAgg4
 z4:=sizeOf4
 v4:=zeroValue4
 t5:=underlying5
 a5:=isAgg5
 z5:=sizeOf5
 v5:=zeroValue5
 t9:=underlying9
 a9:=isAgg9
 z9:=sizeOf9
 v9:=zeroValue9
 t31:=underlying32
 a31:=isAgg32
 z31:=sizeOf32
 v31:=zeroValue32
 t46:=underlying192
 a46:=isAgg192
 z46:=sizeOf192
 v46:=zeroValue192
 t51:=underlying93
 a51:=isAgg93
 z51:=sizeOf93
 v51:=zeroValue93
 t53:=underlying230
 a53:=isAgg230
 z53:=sizeOf230
 v53:=zeroValue230
 t131:=underlying207
 a131:=isAgg207
 z131:=sizeOf207
 v131:=zeroValue207
 t182:=underlying222
 a182:=isAgg222
 z182:=sizeOf222
 v182:=zeroValue222
 t183:=underlying223
 a183:=isAgg223
 z183:=sizeOf223
 v183:=zeroValue223
 t218:=underlying265
 a218:=isAgg265
 z218:=sizeOf265
 v218:=zeroValue265
 t222:=underlying269
 a222:=isAgg269
 z222:=sizeOf269
 v222:=zeroValue269
 t228:=underlying293
 a228:=isAgg293
 z228:=sizeOf293
 v228:=zeroValue293
 t229:=underlying215
 a229:=isAgg215
 z229:=sizeOf215
 v229:=zeroValue215}
open Go.Sort Go.RowKit in
theorem Tryz.slices_Sort_string (EF off cap:Nat)(ss:List (List UInt8))(w:World)(hH:Holds encStr w EF off ss.toArray)(hblk:EF<w.heap.size)(hsz:ss.length<4611686018427387904):
 Calls prog 100 #[.slice (some ⟨EF,off,none⟩) ss.length cap] w λ e w'=>
  e= .returned (.tuple #[])/\ ∃n os,w'=grow (putRow encStr (Sort.ahead w n) EF off (ss.mergeSort λ x y=>decide (x<=y)).toArray) os:=Any.slices_Sort_string Tryz.nC EF off cap ss w hH hblk hsz
open Go.RowKit Go.Sort in
theorem Tryz.slices_Sort_string_none (p:Option Addr)(cap:Nat)(w:World):
 Calls prog 100 #[.slice p 0 cap] w λ e w'=>e= .returned (.tuple #[])/\w'=w:=Any.slices_Sort_string_none Tryz.nC p cap w
def Tryz.AK1:Go.Shelf.Ren:=⟨λ |196=>257|259=>285|n=>n,λ |9=>9|4=>4|3=>3|5=>5|12=>12|119=>203|0=>0|46=>192|139=>233|138=>232|53=>230|n=>n,λ |3=>1|4=>2|n=>n⟩
theorem Tryz.AK2:Go.Proofs.Lays.n196 prog Tryz.AK1:= {
 mixed:=by kernel_rfl
 f196:=func257.trans (congrArg some (by kernel_rfl))
 f259:=func285.trans (congrArg some (by kernel_rfl))
 t0:=underlying0
 a0:=isAgg0
 z0:=sizeOf0
 v0:=zeroValue0
 t3:=underlying3
 a3:=isAgg3
 z3:=sizeOf3
 v3:=zeroValue3
 t4:=underlying4
 a4:=isAgg4
 z4:=sizeOf4
 v4:=zeroValue4
 t5:=underlying5
 a5:=isAgg5
 z5:=sizeOf5
 v5:=zeroValue5
 t9:=underlying9
 a9:=isAgg9
 z9:=sizeOf9
 v9:=zeroValue9
 t12:=underlying12
 a12:=isAgg12
 z12:=sizeOf12
 v12:=zeroValue12
 t46:=underlying192
 a46:=isAgg192
 z46:=sizeOf192
 v46:=zeroValue192
 t53:=underlying230
 a53:=isAgg230
 z53:=sizeOf230
 v53:=zeroValue230
 t119:=underlying203
 a119:=isAgg203
 z119:=sizeOf203
 t138:=underlying232
 a138:=isAgg232
 z138:=sizeOf232
 v138:=zeroValue232
 t139:=underlying233
 a139:=isAgg233
 z139:=sizeOf233
 v139:=zeroValue233
 g3:=by kernel_rfl
 g4:=by kernel_rfl}
open Go.RowKit Go.Lib in
theorem Tryz.utf8_ValidString (s:ByteArray)(w:World)(hs:s.size<=9223372036854775807)(hT:Lib.Utf8Tabs 1 2 w):
 Calls prog 257 #[.string s] w λ e w'=>e= .returned (.bool (Lib.validD s.data.toList))/\Below w.heap.size w w':=Any.utf8_ValidString Tryz.AK2 s w hs hT
end Go.Proofs
namespace Go.Proofs.YtmjpjbmeamnfpaaGreatDoor
open Go.Proofs.Tryz
open Go.RowKit Go.Eng Go.Sort
theorem nD(l:List A1):l.flatMap AZ=l.map encStr:=by
 induction l with
 |nil=>rfl
 |cons a l ih=>simp only[List.flatMap_cons,List.map_cons,ih];rfl
theorem AK3{w0 wv:World}{M0 M:Mem}{Rs:List HO}(u:Value)(ns:List A1)(hS:St w0 M0 wv M (.priv 9 1 u ns.length (ns.flatMap AZ)::Rs))(hb:len ns<=1099511627776):
  Calls prog 100 [u].toArray wv (DT w0 M0 M Rs (λ _:Unit=>.tuple #[]) (λ _=>True) (λ _=>[]) λ _=>[.priv 9 1 u (BN ns).length ((BN ns).flatMap AZ)]):=by
 have hlen:ns.length<4611686018427387904:=by unfold len at hb;omega
 obtain⟨⟨hl,hv⟩,hmem⟩:=hS.obj (i:=0) rfl
 rcases hv with⟨rfl,hz⟩|⟨g,cap,cur,rfl,hg,hh,hnc,hcm,hcs,htk⟩
 ·have hns:ns=[]:=List.eq_nil_of_length_eq_zero hz
  subst hns
  refine(Tryz.slices_Sort_string_none none 0 wv).mono ?_
  rintro e w' ⟨rfl,rfl⟩
  have e:BN []=[]:=by unfold BN;simp
  exact⟨(),M,rfl,trivial,Mem.le.refl _,by rw[e];exact hS,AA⟩
 ·rw[nD,Nat.mul_one]at htk
  have hH:Holds encStr wv g 0 ns.toArray:=holds_of_block hh (by simpa using htk)
  have hgl:g<wv.heap.size:=(Array.getElem?_eq_some_iff.1 hh).1
  refine(Tryz.slices_Sort_string g 0 cap ns wv hH hgl hlen).mono ?_
  rintro e w' ⟨rfl,nn,os,rfl⟩
  have hsl:(BN ns).length=ns.length:=by unfold BN;rw[List.length_mergeSort]
  have hgr:=grownBy_sorted (w:=wv) (g:=g) (n:=nn) (os:=os) (BN ns).toArray
  have hrow:(grow (putRow encStr (Sort.ahead wv nn) g 0 (BN ns).toArray) os).ownsRow w0.heap.size 9 1 (.slice (some ⟨g,0,none⟩) ns.length cap) ns.length ((BN ns).map encStr):=ownsRow_sorted (by rw[hsl]) hg hh hnc hcm hcs
  refine⟨(),M,rfl,trivial,Mem.le.refl _,?_,AA⟩
  rw[nD,hsl]
  refine hS.write (i:=0) rfl ((Below.refl _ _).grown hgr hS.size λ j hj=>by cases hj;exact hg) ⟨λ b o v hbo=>?_⟩ (λ _ _ _=>rfl) (λ b hb hne=>hgr.block b hb λ e=>hne e.symm) (λ _ _ _ _=>rfl) ⟨hrow,λ b hb o=>hmem b hb o⟩ (λ _ hb=>.inl hb)
  have hne:b≠g:=λ e=>by subst e;rw[hmem b rfl o]at hbo;cases hbo
  have hc:=hS.sat.cell b o v hbo
  have hlt:=lt_of_cell hc
  have:=hgr.block b hlt (λ e=>hne (Option.some.inj e))
  rw[<-hc]
  exact World.cell?_of_block (a:=⟨b,o,none⟩) this
end Go.Proofs.YtmjpjbmeamnfpaaGreatDoor
namespace Go.Eng
open Go.RowKit
section
variable {c:Cx} {B:Exit->Act->World->Prop} {k k':List Fr} {m:Md} {s s':XS} {O:Prop} {E:List Ck} {all:Array Oper} {rest:List Oper} {d:Nat} {ty:TypeId} {ps:String} {af:Array Edge}
theorem AK4(kk kr:Nat){t kt e:TypeId}{x:Operand}{b cl:Nat}{l:List SV}{E1:List Ck}(h:run c.T c.N k m s=⟨k',.ops all (⟨some d,.range t x,ty,ps,af,none⟩::rest),s',O,E⟩)(hE:AD E)(hO:O)
  (hx:BZ s'.L .t x=some (.v (.map (some b)),E1)) (hE1:AD E1) (hk:GL s'.H kk=some (.ho (.raw b (DH l cl)))) (ht:c.P.underlying t=some (.map kt e)) (hd:Nat.blt d c.N=true)
  (hn: ∀r,XG c B k' (.ops all rest) ⟨s'.F,(kr,.ho (.raw r (.mapIter (some b) cl #[] cl)))::s'.H,(d,.t,.v (.pointer (some ⟨r,0,none⟩)))::s'.L⟩):XG c B k m s:=by
 refine H0 h hE hO λ w M hX=>?_
 obtain⟨i,hi,_⟩:=IH (Hr:=c.Hr) hk
 exact RL.AH0 hX.st hi (AN hx hE1) ht hd λ w' r hS=>HF (hn r) ⟨hS,hX.f,hX.le⟩ U
theorem AK5(kk kr:Nat){x:Operand}{b r cl since c0:Nat}{seen:Array Nat}{l:List SV}{E1:List Ck}(h:run c.T c.N k m s=⟨k',.ops all (⟨some d,.next x false,ty,ps,af,none⟩::rest),s',O,E⟩)(hE:AD E)(hO:O)
  (hx:BZ s'.L .t x=some (.v (.pointer (some ⟨r,0,none⟩)),E1)) (hE1:AD E1) (hk:GL s'.H kk=some (.ho (.raw b (DH l cl)))) (hj:GL s'.H kr=some (.ho (.raw r (.mapIter (some b) since seen c0))))
  (hold: ∀p∈l,p.born<since) (hsc:since<=c0) (hd:Nat.blt d c.N=true)
  (h1: ∀p∈l,¬seen.contains p.born=true->XG c B k' (.ops all rest) ⟨s'.F,EG s'.H kr (.ho (.raw r (.mapIter (some b) since (seen.push p.born) cl))),(d,.t,.tu [.v (.bool true),.v (str p.key),.v p.val])::s'.L⟩)
  (h2:(∀p∈l,seen.contains p.born=true)->XG c B k' (.ops all rest) ⟨s'.F,s'.H,(d,.t,.tu [.v (.bool false)])::s'.L⟩):XG c B k m s:=by
 refine H0 h hE hO λ w M hX=>?_
 obtain⟨i,hi,_⟩:=IH (Hr:=c.Hr) hk
 obtain⟨j,hj',hset'⟩:=IH (Hr:=c.Hr) hj
 refine RL.AH1 hX.st hi hj' (AN hx hE1) hold hsc hd (λ p hp hns w' hS=>?_) (λ hall=>HF (h2 hall) hX U)
 refine HF (h1 p hp hns) ⟨?_,hX.f,hX.le⟩ U
 have e:=hset' (.ho (.raw r (.mapIter (some b) since (seen.push p.born) cl)))
 show St c.w0 c.M0 w' M (HD (EG s'.H kr (.ho (.raw r (.mapIter (some b) since (seen.push p.born) cl))))++c.Hr)
 rw[e];exact hS
theorem AK6(kk kr:Nat)(p:SV){x:Operand}{b r cl since:Nat}{seen:Array Nat}{l:List SV}{gd:Option (Nat×Bool)}{W:Gd}{E1:List Ck}(h:run c.T c.N k m s=⟨k',.ops all (⟨some d,.entry x,ty,ps,af,gd⟩::rest),s',O,E⟩)(hE:AD E)(hO:O)(hg:(IJ all s'.L gd,Nat.blt d c.N)=(some W,true))
  (hx:BZ s'.L W x=some (.v (.pointer (some ⟨r,0,none⟩)),E1)) (hE1:AD E1) (hk:GL s'.H kk=some (.ho (.raw b (DH l cl)))) (hj:GL s'.H kr=some (.ho (.raw r (.mapIter (some b) since (seen.push p.born) cl))))
  (hp:p∈l) (hnd:(l.map (·.born)).Nodup) (hn:XG c B k' (.ops all rest) ⟨s'.F,s'.H,(d,W,.tu [.v (str p.key),.v p.val])::s'.L⟩):XG c B k m s:=
 CY (.tu [.v (str p.key),.v p.val]) h hE hO hg (λ w M hX=>by
  obtain⟨i,hi,_⟩:=IH (Hr:=c.Hr) hk
  obtain⟨j,hj',_⟩:=IH (Hr:=c.Hr) hj
  exact .AH2 hX.st AR hi hj' (AN hx hE1) hp hnd) hn
end
def LH(l:List SV)(seen:Array Nat)(vs:List SV):Prop:=seen.toList=vs.map (·.born)/\(∀p∈vs,p∈l)/\vs.Nodup
theorem LH.nil (l:List SV):LH l #[] []:=⟨rfl,λ _ h=>(by cases h),.nil⟩
theorem LH.push {l:List SV}{seen:Array Nat}{vs:List SV}{p:SV}(h:LH l seen vs)(hp:p∈l)(hn: ¬seen.contains p.born=true):LH l (seen.push p.born) (vs++[p]):=by
 obtain⟨h1,h2,h3⟩:=h
 refine⟨by simp[h1],λ q hq=>?_,?_⟩
 ·rcases List.mem_append.1 hq with hq|hq
  ·exact h2 q hq
  ·rw[List.mem_singleton.1 hq];exact hp
 ·rw[List.nodup_append]
  refine⟨h3,by simp,λ a ha b hb e=>?_⟩
  rw[List.mem_singleton.1 hb]at e;subst e
  apply hn
  rw[Array.contains_iff_mem,Array.mem_def,h1]
  exact List.mem_map.2 ⟨a,ha,rfl⟩
theorem LH.le {l:List SV}{seen:Array Nat}{vs:List SV}(h:LH l seen vs):vs.length<=l.length:=by
 obtain⟨_,h2,h3⟩:=h
 have key: ∀(vs l:List SV),vs.Nodup->(∀p∈vs,p∈l)->vs.length<=l.length:=by
  intro vs
  induction vs with
  |nil=>intro l _ _;exact Nat.zero_le _
  |cons a vs ih=>
   intro l hn hs
   obtain⟨s,t,rfl⟩:=List.append_of_mem (hs a List.mem_cons_self)
   rw[List.nodup_cons]at hn
   have:=ih (s++t) hn.2 (λ p hp=>by
    have h1:=hs p (List.mem_cons_of_mem _ hp)
    rcases List.mem_append.1 h1 with h1|h1
    ·exact List.mem_append.2 (.inl h1)
    ·rcases List.mem_cons.1 h1 with rfl|h1
     ·exact absurd hp hn.1
     ·exact List.mem_append.2 (.inr h1))
   simp only[List.length_append,List.length_cons]at*;omega
 exact key vs l h3 h2
theorem LH.all {l:List SV}{seen:Array Nat}{vs:List SV}(h:LH l seen vs)(hb:(l.map (·.born)).Nodup)(hall: ∀p∈l,seen.contains p.born=true):vs.Perm l:=by
 obtain⟨h1,h2,h3⟩:=h
 have inj: ∀ {l:List SV} {p q:SV},(l.map (·.born)).Nodup->p∈l->q∈l->p.born=q.born->p=q:=by
  intro l
  induction l with
  |nil=>intro p q _ hp;cases hp
  |cons a l ih=>
   intro p q hn hp hq he
   rw[List.map_cons,List.nodup_cons]at hn
   rcases List.mem_cons.1 hp with h1|h1
   ·rcases List.mem_cons.1 hq with h2|h2
    ·rw[h1,h2]
    ·exact absurd (List.mem_map.2 ⟨q,h2,by rw[<-he,h1]⟩) hn.1
   ·rcases List.mem_cons.1 hq with h2|h2
    ·exact absurd (List.mem_map.2 ⟨p,h1,by rw[he,h2]⟩) hn.1
    ·exact ih hn.2 h1 h2 he
 have hsub: ∀p∈l,p∈vs:=by
  intro p hp
  have:=hall p hp
  rw[Array.contains_iff_mem,Array.mem_def,h1]at this
  obtain⟨q,hq,he⟩:=List.mem_map.1 this
  rw[<-inj hb (h2 q hq) hp he];exact hq
 have hln:l.Nodup:=by
  clear hall hsub inj h1 h2 h3
  induction l with
  |nil=>exact .nil
  |cons a l ih=>
   rw[List.map_cons,List.nodup_cons]at hb
   exact List.nodup_cons.2 ⟨λ ha=>hb.1 (List.mem_map.2 ⟨a,ha,rfl⟩),ih hb.2⟩
 exact(List.perm_ext_iff_of_nodup h3 hln).2 λ p=>⟨h2 p,hsub p⟩
def PZ(rt:Tf->Bool)(f:Nat)(l:List Tk)(d:Int)(ns:List A1)(i:Int):PR (A1×Tf):=
 if(at' l i).kind≠2/\(at' l i).kind≠4\/(at' l i).s∈ns then D0 l i 1
 else(B6 l (i+1) [58]).bind λ _ k=>(C3 AE rt f l d k).bind λ x m=>.ok ((at' l i).s,x) m
end Go.Eng
namespace Go.Proofs.YtmjpjbmeamnfpaaGreatDoor
open Go.Proofs.Tryz
open Go.Eng
abbrev NO(mb:Nat)(ns:List A1)(hs:List AX):HO:=.raw mb (DH (E6 ns hs 0) ns.length)
theorem AK7{rt:Tf->Bool}{f:Nat}(H:JI rt f){w0 wv:World}{M0 M:Mem}{Rs:List HO}{b mb:Nat}{v:Value}{l:List Tk}{i d:Int}{ns:List A1}{hs:List AX}(hS:St w0 M0 wv M (FF b v i d::NO mb ns hs::Rs))(hl:Sl M 9 l.length v (l.flatMap Tk.cells))(hg:Gl w0)(ok:EO l)(h0:0<=i)(h1:i<len l)
   (hlen:ns.length=hs.length) (hd0:0<=d) (hd:d<=64) (hf:4*(len l-i)-6<=(f:Int)):
   Calls prog 98 [.pointer (some ⟨b,0,none⟩),.map (some mb)].toArray wv (OM w0 M0 M Rs 82 (PZ rt f l d ns i) λ q j=>DT w0 M0 M Rs (λ h:AX=>.tuple #[]) (λ _=>True) (λ h=>[(7,B7 h.v q.2.flat)]) λ h=>[FF b v j d,NO mb (ns++[q.1]) (hs++[h])]):=by
 have hfew:=ok.few
 refine AU (Hr:=Rs) AP func98 U ntmps98 [(0,kn v 9 l Tk.cells)] [(0,AV b v i d),(2,.ho (NO mb ns hs))] [.bx 0 b 0,.v (.map (some mb))] U hS (fc 0 hl (λ _=>rfl) AA) (λ B hB=>?_) U
 unfold PZ at hB
 refine CZ [0] (EB (at' l i)) U (A0 U) U call41 U U (A0 U) U (λ _ w M hS hF=>EN hS (hF.get (k:=0) U).sl h0 h1) U ?_
 refine CU 4 U (A0 U) U zeroValue63 U λ b4=>?_
 refine S2 2 U (A0 U) U U U (A0 U) U underlying148 underlying9 zeroValue36 (v:=if(at' l i).s∈ns then(at' hs (EX ns (at' l i).s)).v else .slice none 0 0) (q:=decide ((at' l i).s∈ns)) (by rw[X5 ns hs 0 _ hlen];split<;>rfl) (by rw[X5 ns hs 0 _ hlen];by_cases hm:(at' l i).s∈ns<;>simp[hm]) ?_
 refine A7 U (A0 U) (by simp only[zb]<;>omega) (λ hb1=>?_) (λ hb1=>?_)<;>simp only[zb]at hb1
 ·rw[if_pos hb1]at hB
  exact GM [0] U (A0 U) U U call42 U (A0 U) U (λ w M hS hF=>JF (at' l i) 1 hS) λ a w M hs hS hle=>EW _ (hB.p ⟨M,rfl,hS.drop _ KD,hle⟩ a hs)
 rw[if_neg (by
    rintro(⟨q1,q2⟩|q);· exact hb1.1.elim q1 q2
    ·exact hb1.2 q)]at hB
 have hi1:i+1<len l:=ok.last i h0 h1 λ e=>by rw[e]at hb1;exact absurd hb1.1 (by decide)
 refine C9 [0] [] (λ _ (_:Unit)=>.tu []) (λ _ j _=>[(0,AV b v j d)]) hB U (A0 U) (by simp only[zb]<;>omega) U call97 U U (A0 U) U KD (λ w M hS hF=>RP [58] hS (hF.get (k:=0) U).sl (by omega) hi1 (by omega)) (λ _ _=>rfl) (λ _ _ _=>rfl) λ _ k hk hB _ _=>?_
 obtain⟨rfl,hk1,_⟩:=GB ok (by omega) hi1 hk
 refine MK [4,5] 3 (λ _ _ _ _ _ h=>h) U (A0 U) U EM (by decide+kernel) ?_
 refine D2 4 U (A0 U) U U U ?_
 refine C9 [0] [] (λ _ (h:AX)=>.sl 7 h.v) (λ x j h=>[(0,AV b v j d),(7,DF h.v x.flat)]) hB U (A0 U) U U call40 U U (A0 U) U KD (λ w M hS hF=>H.rd ⟨hS,(hF.get (k:=0) U).sl,hg,ok,by omega,hk1⟩ hd0 hd (by omega) trivial) (λ _ _=>rfl) (λ _ _ _=>rfl) λ x m hx hB h7 _=>?_
 refine J7 7 U ?_
 refine CL U (A0 U) U ?_
 refine D2 5 U (A0 U) U U U ?_
 have hst:=AI2 (x:=h7) hlen hb1.2
 refine U1 false 2 (E6 (ns++[(at' l i).s]) (hs++[h7]) 0) (ns++[(at' l i).s]).length U (A0 U) U U U U (A0 U) U underlying148 underlying9 hst.1 hst.2 ?_
 refine CL U (A0 U) U ?_
 refine IP U (A0 U) U U U ?_
 exact TE hB U U (A0 U) U λ w M' hX=>⟨h7,M',rfl,trivial,hX.le,hX.CQ [0,2] U,CK (hX.f.get (k:=7) U) AA⟩
abbrev U2(b3:Nat)(o:Int):HX:=.box b3 [I 2,I 0,.v (str []),.v (str []),I o,I 0,I 0,.v (str []),.v (str []),.v (.bool false),I 0] 48
abbrev Q0(hs:List AX)(gs:List Tf):Kn:=KE hs (gs.map Tf.flat)
theorem nE{rt:Tf->Bool}{f:Nat}{l:List Tk}{d j:Int}{ns:List A1}{xs:List Tf}(h:xs.map (λ x=>x.t.name)=ns):
   (if(at' l j).kind≠2/\(at' l j).kind≠4\/(at' l j).s∈xs.map (λ x=>x.t.name)then D0 l j 1
    else(B6 l (j+1) [58]).bind λ _ k=>(C3 AE rt f l d k).bind λ x m=>FT AE rt f l d (xs++[x.named (at' l j).s]) m)=(PZ rt f l d ns j).bind λ q m=>FT AE rt f l d (xs++[q.2.named q.1]) m:=by
 rw[h]
 unfold PZ
 split
 ·rfl
 ·rw[PR.assoc]
  refine PR.congr λ _ k=>?_
  rw[PR.assoc];rfl
theorem AK8{rt:Tf->Bool}{f:Nat}{l:List Tk}(ok:EO l){d i m:Int}{ns:List A1}{n:A1}{x:Tf}(h0:0<=i)(h1:i<len l)(h:PZ rt f l d ns i= .ok (n,x) m):NM l (i+2) x m/\n ∉ ns/\len n<=1048576:=by
 unfold PZ at h
 split at h
 ·exact(DU h).elim
 ·rename_i hc
  have hi1:i+1<len l:=ok.last i h0 h1 λ e=>hc (.inl (by rw[e];decide))
  obtain⟨_,k,h2,h3⟩:=BM h
  obtain⟨rfl,h4,_⟩:=GB ok (by omega) hi1 h2
  obtain⟨y,m',h5,h6⟩:=BM h3
  cases h6
  have:=(MS rt ok f).ty _ _ _ _ (by omega) h4 h5
  rw[show i+1+1=i+2 by omega]at this
  exact⟨this,λ q=>hc (.inr q),ok.bd _ (at_mem h0 h1)⟩
def nF(rt:Tf->Bool)(f:Nat)(l:List Tk)(d i:Int):PR Tf:=(EA l d i [123]).bind λ _ j=>FT AE rt f l (d+1) [] j
theorem AK9{rt:Tf->Bool}{f:Nat}(H: ∀g,g<=f->JI rt g):OR 1 64 (nF rt f) f S3:=by
 intro w0 wv M0 M Rs b v l i d h hd0 hd hf _
 obtain⟨hS,hl,hg,ok,h0,h1⟩:=h
 have hfew:=ok.few
 refine AU (Hr:=Rs) AP func64 U ntmps64 [(0,kn v 9 l Tk.cells)] [(0,AV b v i d)] [.bx 0 b 0] U hS (fc 0 hl (λ _=>rfl) AA) (λ B hB=>?_) U
 refine C9 [0] [] (λ _ (_:Unit)=>.tu []) (λ _ j _=>[(0,AV b v j (d+1))]) hB U (A0 U) U U call95 U U (A0 U) U (List.Sublist.refl _) (λ w M hS hF=>PT [123] ⟨hS,(hF.get (k:=0) U).sl,hg,ok,h0,h1⟩ ⟨hd0,hd⟩) (λ _ _=>rfl) (λ _ _ _=>rfl) λ _ k hk hB _ _=>?_
 obtain⟨rfl,hk1,hd2,_⟩:=IS ok h0 h1 hk
 generalize hR:FT AE rt f l (d+1) [] (i+1)=R at hB
 refine CU 3 U (A0 U) U zeroValue48 U λ b3=>?_
 refine mJ 4 U (A0 U) U U λ mb=>?_
 refine IK 8 (Q0 [] []) (λ w M hX=>⟨Sl.nil M 1,DZ,trivial⟩) ?_
 refine lU (σ:=Int×List A1×List AX×List Tf×Bool×Nat) 1 (λ s=> ∃(o j:Int) (ns:List A1) (hs:List AX) (gs:List Tf),i<j/\j<len l/\ns.length=hs.length/\ns.length=gs.length/\ns.Nodup/\GG (i+1) j (EK ns gs)/\len ns<=j-i/\R=((B6 l j [125]).bind λ _ m=>.ok (FQ o (EK ns gs)) m)/\
     s=⟨[(0,kn v 9 l Tk.cells),(8,Q0 hs gs)],[(0,AV b v j (d+1)),(3,U2 b3 o),(4,.ho (NO mb ns hs))],[Z 0 (.bx 0 b 0),Z 3 (.bx 3 b3 0),Z 4 (.v (.map (some mb)))]⟩)
   (λ(j,ns,hs,gs,fi,q)=>⟨[(0,kn v 9 l Tk.cells),(8,Q0 hs gs)],[(0,AV b v j (d+1)),(3,U2 b3 0),(4,.ho (NO mb ns hs))],[Z 0 (.bx 0 b 0),Z 3 (.bx 3 b3 0),Z 4 (.v (.map (some mb))),Z 5 (.v (.bool fi))]⟩)
   (λ(j,ns,hs,gs,fi,q)=>i<j/\j<len l/\ns.length=hs.length/\ns.length=gs.length/\ns.Nodup/\GG (i+1) j (EK ns gs)/\len ns<=j-i/\(EK ns gs).isEmpty=fi/\4*(len l-j)+1<=(q:Int)/\q<=f/\FT AE rt q l (d+1) (EK ns gs) j=R) (λ(j,ns,hs,gs,fi,q)=>(len l-j).toNat) (i+1,[],[],[],true,f) U (A0 U) U U U ⟨by omega,hk1,rfl,rfl,.nil,.nil _,by show(0:Int)<=_;omega,rfl,by omega,Nat.le_refl _,hR⟩ ?_ ?_
 ·rintro⟨j,ns,hs,gs,fi,q⟩ ⟨hj0,hj1,hl1,hl2,hnd,hgs,hnl,hfi,hq,hqf,hst⟩
  cases q with
  |zero=>exfalso;omega
  |succ q=>
  rw[FT]at hst
  refine CZ [0] (.v (.bool (AG l j [125]))) U (A0 U) U call63 U U (A0 U) U (λ _ w M hS hF=>KB [125] hS (hF.get (k:=0) U).sl (by omega) hj1) U ?_
  refine A7 U (A0 U) U (λ hb1=>?_) (λ hb1=>?_)
  ·have hb:AG l j [125]=false:=by simpa using hb1
   rw[if_neg (by rw[hb];decide)]at hst
   rw[<-hst]at hB
   refine ES 0 (λ s=> ∃j',j<=j'/\j'<len l/\4*(len l-j')<=(q:Int)/\R=(if AG l j' [63]then
       if(EK ns gs).isEmpty&&AG l (j'+1) [58]then(C3 AE rt q l (d+1) (j'+2)).bind λ x k=>(B6 l k [125]).bind λ _ m=>.ok (.mk (BJ 3) [x]) m
       else(B6 l (j'+1) [125]).bind λ _ m=>.ok (FQ 1 (EK ns gs)) m
      else(PZ rt q l (d+1) ns j').bind λ q' m=>FT AE rt q l (d+1) (EK ns gs++[q'.2.named q'.1]) m)/\s=⟨[(0,kn v 9 l Tk.cells),(8,Q0 hs gs)],[(0,AV b v j' (d+1)),(3,U2 b3 0),(4,.ho (NO mb ns hs))],[Z 0 (.bx 0 b 0),Z 3 (.bx 3 b3 0),Z 4 (.v (.map (some mb))),Z 5 (.v (.bool fi))]⟩) U (A0 U) U U (λ hb2=>?_) (λ hb2=>?_) ?_
   ·have hf2:fi=false:=by simpa using hb2
    rw[hfi,hf2,if_neg (by decide)]at hB hst
    refine C9 [0] [] (λ _ (_:Unit)=>.tu []) (λ _ j _=>[(0,AV b v j (d+1))]) hB U (A0 U) U U call97 U U (A0 U) U KD (λ w M hS hF=>RP [44] hS (hF.get (k:=0) U).sl (by omega) hj1 (by omega)) (λ _ _=>rfl) (λ _ _ _=>rfl) λ _ k hk hB _ _=>?_
    obtain⟨rfl,hk1,_⟩:=GB ok (by omega) hj1 hk
    rw[hk,PR.JH,nE (X4 hl2)]at hst
    exact B5 _ U (A0 U) U U ⟨j+1,by omega,hk1,by omega,by rw[hfi,hf2];exact hst.symm,rfl⟩
   ·have hf2:fi=true:=by simpa using hb2
    rw[hfi,hf2,if_pos U,PR.JH,nE (X4 hl2)]at hst
    exact B5 _ U (A0 U) U U ⟨j,by omega,hj1,by omega,by rw[hfi,hf2];exact hst.symm,rfl⟩
   rintro s ⟨j',hjj,hj2,hq2,hR2,rfl⟩
   rw[hst,hR2]at hB
   refine CZ [0] (.v (.bool (AG l j' [63]))) U (A0 U) U call63 U U (A0 U) U (λ _ w M hS hF=>KB [63] hS (hF.get (k:=0) U).sl (by omega) hj2) U ?_
   refine A7 U (A0 U) U (λ hb3=>?_) (λ hb3=>?_)
   ·have hb4:AG l j' [63]=false:=by simpa using hb3
    rw[if_neg (by rw[hb4];decide)]at hB hR2
    refine C9 [0,4] [7] (λ(_:A1×Tf) (h:AX)=>.tu []) (λ(q':A1×Tf) j h=>[(0,AV b v j (d+1)),(4,.ho (NO mb (ns++[q'.1]) (hs++[h])))]) (Fg:=λ(q':A1×Tf) (_:Int) (h:AX)=>[(7,B7 h.v q'.2.flat)]) hB U (A0 U) U U call98 U U (A0 U) U (List.sublist_cons_self _ _) (λ w M hS hF=>AK7 (H q (by omega)) hS (hF.get (k:=0) U).sl hg ok (by omega) hj2 hl1 (by omega) (by omega) (by omega)) (λ _ _=>rfl) (λ _ _ _=>rfl) λ q' m hq' hB h7 _=>?_
    obtain⟨gx,hnew,hnm⟩:=AK8 ok (by omega) hj2 hq'
    have hlt:=gx.lt
    have hle:=gx.le
    rw[hq',PR.JH]at hR2
    refine IK 8 (Q0 (hs++[h7]) (gs++[q'.2])) (λ w M hX=>⟨Sl.nil M 1,DZ,by show D1 M 11 Tm.cells (hs++[h7]) ((gs++[q'.2]).map Tf.flat);rw[List.map_append];exact D1.snoc (hX.sl 7 U) (hX.f.get (k:=8) U).more⟩) ?_
    exact C7 (m,ns++[q'.1],hs++[h7],gs++[q'.2],false,q) rfl (A0 rfl) U rfl ⟨by omega,hle,by simp[hl1],by simp[hl2],List.nodup_append.2 ⟨hnd,by simp,λ a ha b hb e=>by rw[List.mem_singleton.1 hb]at e;subst e;exact hnew ha⟩,by
      rw[cE hl2];exact(hgs.mono (j:=j'+2) (by omega)).mV gx hnm,by rw[A5];show len ns+1<=_;omega,by rw[cE hl2];simp,by omega,by omega,by rw[cE hl2];exact hR2.symm⟩ (by show Int.toNat _<Int.toNat _;omega)
   ·have hb4:AG l j' [63]=true:=by simpa using hb3
    rw[if_pos hb4]at hB hR2
    have hj3:=I2 ok (by omega) hj2 hb4
    refine CZ [0] (.v (.bool (AG l (j'+1) [58]))) U (A0 U) (by simp only[zb]<;>omega) call63 U U (A0 U) U (λ _ w M hS hF=>KB [58] hS (hF.get (k:=0) U).sl (by omega) hj3) U ?_
    rw[hfi]at hB hR2
    refine A7 U (A0 U) (by simp only[zb]<;>omega) (λ hb5=>?_) (λ hb5=>?_)
    ·rw[if_pos hb5]at hB
     have hb6:AG l (j'+1) [58]=true:=by rw[Bool.and_eq_true]at hb5;exact hb5.2
     have hj4:=I2 ok (by omega) hj3 hb6
     have e2:j'+2=j'+1+1:=by omega
     rw[e2]at hB
     refine C9 [0] [] (λ _ (h:AX)=>.sl 7 h.v) (λ x j h=>[(0,AV b v j (d+1)),(7,DF h.v x.flat)]) hB U (A0 U) (by simp only[zb]<;>omega) U call40 U U (A0 U) U KD (λ w M hS hF=>(H q (by omega)).rd ⟨hS,(hF.get (k:=0) U).sl,hg,ok,by omega,hj4⟩ (by omega) (by omega) (by omega) trivial) (λ _ _=>rfl) (λ _ _ _=>rfl) λ x m hx hB h7 _=>?_
     have gx:=(MS rt ok q).ty _ _ _ _ (by omega) hj4 hx
     have hlt:=gx.lt
     have hsz:=gx.size
     have hle:=gx.le
     refine C9 [0] [] (λ _ (_:Unit)=>.tu []) (λ _ j _=>[(0,AV b v j d)]) hB U (A0 U) U U call96 U U (A0 U) U jX (λ w M hS hF=>PU [125] ⟨hS,(hF.get (k:=0) U).sl,hg,ok,by omega,hle⟩ (by omega) (by omega)) (λ _ _=>rfl) (λ _ _ _=>rfl) λ _ n hn hB _ _=>?_
     refine J7 7 U ?_
     refine DS 9 [h7] DN 1 36 GO U (A0 U) U U (A0 U) (λ w=>by kernel_rfl) U λ v9=>?_
     refine BQ [] (λ h:AX=>.sl 10 h.v) [] (λ u=>[(10,DF u.v (Tf.mk (BJ 3) [x]).flat)]) U (A0 U) U U call99 U U (A0 U) U (λ w M hS hF=>X7 (BJ 3) v9 h7 x hS (hF.get (k:=9) U).sl (hF.get (k:=7) U).sl (by omega)) (λ _=>rfl) (λ _=>rfl) λ h10 _=>?_
     exact A9 hB U U (A0 U) U U (A0 U) λ w M' hX=>⟨h10,M',rfl,trivial,hX.le,hX.CQ [0,10] U,AA⟩
    ·rw[if_neg (by rw[hb5];decide)]at hR2
     exact B5 _ U (A0 U) (by simp only[zb]<;>omega) U ⟨1,j'+1,ns,hs,gs,by omega,hj3,hl1,hl2,hnd,hgs.mono (by omega),by omega,hR2,rfl⟩
  ·have hb:AG l j [125]=true:=by simpa using hb1
   rw[if_pos hb]at hst
   exact B5 _ U (A0 U) U U ⟨0,j,ns,hs,gs,hj0,hj1,hl1,hl2,hnd,hgs,hnl,by rw[<-hst];unfold B6;rw[if_pos hb];rfl,rfl⟩
 rintro s ⟨o,j,ns,hs,gs,hj0,hj1,hl1,hl2,hnd,hgs,hnl,hRR,rfl⟩
 rw[hRR]at hB
 have hnl0:=A4 ns
 have hsz:=hgs.size
 have hgl:len (EK ns gs)=len ns:=by have:=congrArg List.length (X4 hl2);rw[List.length_map]at this;unfold len;omega
 refine C9 [0] [] (λ _ (_:Unit)=>.tu []) (λ _ j _=>[(0,AV b v j d)]) hB U (A0 U) U U call96 U U (A0 U) U KD (λ w M hS hF=>PU [125] ⟨hS,(hF.get (k:=0) U).sl,hg,ok,by omega,hj1⟩ (by omega) (by omega)) (λ _ _=>rfl) (λ _ _ _=>rfl) λ _ n hn hB _ _=>?_
 refine CX U (A0 U) U ?_
 refine xM 7 7 9 1 AZ DZ U ?_
 refine AK4 4 9 U (A0 U) U U (A0 U) U underlying148 U λ r=>?_
 obtain⟨hborn,hbnd⟩:=AI3 (hs:=hs) hl1
 refine CD (σ:=Array Nat×List SV×Value×List A1) (λ(sn,vs,u,nm)=>⟨[(0,kn v 9 l Tk.cells),(8,Q0 hs gs)],[(0,AV b v n d),(3,U2 b3 o),(4,.ho (NO mb ns hs)),(9,.ho (.raw r (.mapIter (some mb) ns.length sn ns.length))),(7,.pv 9 (kn u 1 nm AZ) DZ)],[Z 3 (.bx 3 b3 0),Z 4 (.v (.map (some mb))),Z 7 (.sl 7 u),Z 60 (.v (.pointer (some ⟨r,0,none⟩)))]⟩)
   (λ(sn,vs,u,nm)=>LH (E6 ns hs 0) sn vs/\nm=vs.map (·.key)) (λ(sn,vs,u,nm)=>(E6 ns hs 0).length-vs.length) (#[],[],.slice none 0 0,[]) U (A0 U) U U ⟨LH.nil _,rfl⟩ ?_
 rintro⟨sn,vs,u,nm⟩ ⟨hse,hnm⟩
 have hvl:=hse.le
 have hsl:(E6 ns hs 0).length=ns.length:=by have:=congrArg List.length (cF ns hs 0 hl1);rwa [List.length_map]at this
 have hvk:len nm<=len ns:=by rw[hnm];unfold len;rw[List.length_map];omega
 have hnm0:=A4 nm
 refine AK5 4 9 U (A0 U) U U (A0 U) U U hborn (Nat.le_refl _) U (λ p hp hns=>?_) (λ hall=>?_)
 ·refine A7 rfl (A0 rfl) U (λ hb1=>?_) (λ hb1=>by cases hb1)
  refine AK6 4 9 p U (A0 U) U U U (A0 U) U U hp hbnd ?_
  refine DS 10 [p.key] AZ 1 9 DZ U (A0 U) U U (A0 U) (λ w=>by kernel_rfl) U λ v10=>?_
  refine NC 16 U (A0 U) U U (A0 U) U underlying32 type9 U U YP (by simp only[A6,len_nil];omega) λ u'=>?_
  have hse':=hse.push hp hns
  have hle':=hse'.le
  rw[List.length_append]at hle'
  exact C7 (sn.push p.born,vs++[p],u',nm++[p.key]) U (A0 U) U U ⟨hse',by rw[hnm,List.map_append];rfl⟩ (by show _-(vs++[p]).length<_-vs.length;rw[List.length_append];simp only[List.length_cons,List.length_nil]at*;omega)
 have hperm:=hse.all hbnd hall
 have hsn:BN nm=BN ns:=by rw[hnm];exact AI4 hl1 hperm
 have hsnl:=AH7 ns
 have hmem: ∀ {x:A1},x∈BN ns->x∈ns:=λ h=>AH6.1 h
 have hix: ∀ {k:Int},0<=k->k<len (BN ns)->0<=EX ns (at' (BN ns) k)/\EX ns (at' (BN ns) k)<len ns:=λ h0 h1=>AI0 (hmem (at_mem h0 h1))
 refine A7 rfl (A0 rfl) U (λ hb1=>by cases hb1) (λ _=>?_)
 refine BQ [7] (λ _:Unit=>.tu []) [] (λ _=>[(7,.pv 9 (kn u 1 (BN ns) AZ) DZ)]) U (A0 U) U U call100 U U (A0 U) U (λ w M hS hF=>by have:=AK3 u nm hS (by omega);rw[hsn]at this;exact this) (λ _=>rfl) (λ _=>rfl) λ _ _=>?_
 refine J7 7 U ?_
 refine CX U (A0 U) U ?_
 refine TB 6 9 36 1 DN GO U ?_
 refine IK 18 (KE [] []) (λ w M hX=>⟨Sl.nil M 1,DZ,trivial⟩) ?_
 refine CD (σ:=Int×Value×List AX×List Fl) (λ(k,u9,hs',rs)=>⟨[(8,Q0 hs gs),(7,kn u 1 (BN ns) AZ),(6,kn u9 1 hs' DN),(18,KE hs' rs)],[(0,AV b v n d),(3,U2 b3 o),(4,.ho (NO mb ns hs)),(6,.ho (.own 36 1 u9 hs'.length (hs'.flatMap DN)))],[Z 3 (.bx 3 b3 0),Z 4 (.v (.map (some mb))),Z 7 (.sl 7 u),Z 9 (.sl 6 u9),Z 71 (.sl 7 u),Z 72 (I (len (BN ns))),Z 73 (I k)]⟩)
   (λ(k,u9,hs',rs)=>0<=k/\k<=len (BN ns)/\rs=(Eng.sub (BN ns) 0 k).map (λ x=>(at' gs (EX ns x)).flat)/\len hs'=k) (λ(k,u9,hs',rs)=>(len (BN ns)-k).toNat) (0,.slice none 0 0,[],[]) U (A0 U) U U ⟨by omega,by omega,rfl,rfl⟩ ?_
 rintro⟨k,u9,hs',rs⟩ ⟨hk0,hk1,hrs,hhl⟩
 refine A7 U (A0 U) U (λ hb2=>?_) (λ hb2=>?_)<;>simp only[zb]at hb2
 ·obtain⟨q0,q1⟩:=hix hk0 hb2
  have hin:=hmem (at_mem hk0 hb2)
  refine AH5 4 U (A0 U) (by omega) U U (A0 U) U underlying148 underlying9 zeroValue36 (v:=(at' hs (EX ns (at' (BN ns) k))).v) (by rw[X5 ns hs 0 _ hl1,if_pos hin];rfl) ?_
  refine DS 10 [at' hs (EX ns (at' (BN ns) k))] DN 1 36 GO U (A0 U) U U (A0 U) (λ w=>by kernel_rfl) U λ v10=>?_
  refine ME 24 U (A0 U) U U (A0 U) U underlying43 type36 U U WE (by simp only[A6,len_nil];omega) λ v'=>?_
  refine IK 18 (KE (hs'++[at' hs (EX ns (at' (BN ns) k))]) (rs++[(at' gs (EX ns (at' (BN ns) k))).flat])) (λ w M hX=>⟨Sl.nil M 1,DZ,by
    refine D1.snoc ?_ (hX.f.get (k:=18) U).more
    have:=D1.at (k:=EX ns (at' (BN ns) k)) (hX.f.get (k:=8) U).more q0 (by unfold len at*;omega)
    rwa [yI _ _ q0 (by unfold len at*;omega)]at this⟩) ?_
  exact C7 (k+1,v',hs'++[at' hs (EX ns (at' (BN ns) k))],rs++[(at' gs (EX ns (at' (BN ns) k))).flat]) U (A0 U) (by omega) U ⟨by omega,by omega,by rw[hrs,NJ hk0 hb2,List.map_append];rfl,by rw[A5];show len hs'+1=_;omega⟩ (by show Int.toNat _<Int.toNat _;omega)
 rw[L7 (by omega)]at hrs
 have hob:=AI7 hl2 hnd
 rw[<-hrs]at hob
 have hfl:len (GF (BN ns) rs).flatten=len (AM (EK ns gs)):=by
  rw[hob,<-RU];have:=(cH (PX (EK ns gs))).length_eq;unfold len;omega
 have hfl2:=mS (BN ns) rs
 have hrl:len rs=len (MJ (EK ns gs)):=by
  have:=congrArg len hob
  rw[mR]at this
  rw[this];unfold len;rw[List.length_map]
 have e:({ BJ 2 with n:=o,many:=len rs}::(GF (BN ns) rs).flatten:Fl)=(FQ o (EK ns gs)).flat:=by
  unfold FQ
  rw[Tf.aR,hob,hrl]
 have hrl2:=mR (BN ns) rs
 have hsp:len (MJ (EK ns gs))=len (EK ns gs):=by have:=(PX (EK ns gs)).length_eq;unfold len;omega
 refine BQ [] (λ h:AX=>.sl 10 h.v) [] (λ h=>[(10,DF h.v (FQ o (EK ns gs)).flat)]) U (A0 U) U U call99 U U (A0 U) U (λ w M hS hF=>by
   have:=cG { BJ 2 with n:=o} u (BN ns) u9 hs' rs hS (hF.get (k:=7) rfl).sl ⟨(hF.get (k:=6) rfl).sl,GO,(hF.get (k:=18) rfl).more⟩ (λ y hy=>by rw[hrs]at hy;obtain⟨z,_,rfl⟩:=List.mem_map.1 hy;exact Tf.aQ _) (by omega) (by omega)
   rw[<-e];exact this) (λ _=>rfl) (λ _=>rfl) λ h10 _=>?_
 exact A9 hB U U (A0 U) U U (A0 U) λ w M' hX=>⟨h10,M',rfl,trivial,hX.le,hX.CQ [0,10] U,AA⟩
end Go.Proofs.YtmjpjbmeamnfpaaGreatDoor
