/- Lemmas for the card. -/
import Derived.Test.YtnoegalemkbbbaaGreatDoorKs20
set_option linter.unusedVariables false
set_option linter.unusedSimpArgs false
set_option maxRecDepth 100000
set_option maxRecDepth 100000
namespace Go.Eng
open Go.RowKit
def ZM(u:Tf):Bool:=if u.t.op=1 then(T3 u.t.n (u.ps.map Tf.node)).2 else true
mutual
def T5:Tf->Bool
 | .mk t ps=>ZM (.mk t ps)&&JW ps
def JW:List Tf->Bool
 |[]=>true
 |x::l=>T5 x&&JW l
end
theorem Aw3(a b:List Tf):JW (a++b)=(JW a&&JW b):=by
 induction a with
 |nil=>simp[JW]
 |cons x a e=>rw[List.cons_append,JW,JW,e,Bool.and_assoc]
theorem Aw4(u:Tf)(us:List Tf):JW (u::us)=(ZM u&&JW (u.ps++us)):=by
 cases u with|mk t ps=>rw[JW,T5,Aw3,Bool.and_assoc];rfl
theorem Aw5{a:Tm}(h:YZ a):AtR a:=⟨h.num,h.s,h.e⟩
structure Tf.VT (x:Tf):Prop where
 right:x.fU
 B3:T5 x=true
end Go.Eng
namespace Go.Proofs.YtnoegalemkbbbaaGreatDoor
open Go.Proofs.Tryz
open Go.Eng
theorem uZ{w:World}{M:Mem}(v:Value)(f:Fl)(i:Int)(z:Sat w M)(hl:(A6 v f).ok M)(H:len f<=1048576)(h0:0<=i)(h1:i<len f)(ho:(at' f i).op=1)(hm:0<=(at' f i).many)(A:i+1+(at' f i).many<=len f):
    Calls prog 41 [v,i64 i].toArray w (MP w M (λ u:Value=>u) (λ _=>True) (λ u=>[(0,kn u 7 (Eng.sub f (i+1) (i+1+(at' f i).many)) C2)])):=by
 refine AH (Hr:=[]) AF func41 U ntmps41 [(0,A6 v f)] [] [.sl 0 v,I i] U (Aj z) (AD hl A3) (λ B C=>BH 1 ([]:List Tm) C2 7 113 YX U U Ah U λ u=>B7 (σ:=Int×Value×Fl) (λ(j,u,y)=>⟨[(0,A6 v f),(1,kn u 7 y C2)],[(1,.ho (.own 113 7 u y.length (y.flatMap C2)))],[Z 0 (.sl 0 v),Z 1 (I i),Z 5 (.sl 1 u),Z 6 (I j)]⟩) (λ(j,u,y)=>i+1<=j/\j<=i+1+(at' f i).many/\y=Eng.sub f (i+1) j) (λ(j,u,y)=>(i+1+(at' f i).many-j).toNat) (i+1,u,[]) U U ⟨Aa,Aa,by unfold Eng.sub;simp⟩ ?_) U
 rintro⟨j,u,y⟩ ⟨e,D,l⟩
 have E:len y=j-(i+1):=by rw[l,FF Aa e Aa]
 refine A1 U (λ b=>?_) (λ b=>?_)<;>simp only[zb]at b
 ·have n:Eng.sub f (i+1) (j+1)=Eng.sub f (i+1) j++[at' f j]:=by
   obtain⟨F,G⟩:=CE f (i:=j) Aa Aa
   unfold Eng.sub
   rw[show(j+1).toNat-(i+1).toNat=(j.toNat-(i+1).toNat)+1 by omega,List.take_add_one,G,List.getElem?_drop,show(i+1).toNat+(j.toNat-(i+1).toNat)=j.toNat by omega,List.getElem?_eq_getElem F]
   rfl
  exact D7 [12,13,14] 4 (λ _ _ _ _ _ h=>h) U BK Ac <|AK 12 U U U <|BH 3 [at' f j] C2 7 113 YX U U Ah U λ v3=>AE U <|AK 13 U U U <|F4 72 U U U underlying79 type113 U U rN (by simp only[AL,len_nil];omega) λ v'=>AE U <|AK 14 U U U <|AE U <|BL U U U <|AX (j+1,v',y++[at' f j]) U U ⟨Aa,Aa,by rw[n,<-l]⟩ Ag
 ·have q:j=i+1+(at' f i).many:=by
   rcases Decidable.em (j<=i+(at' f i).many)with h|h
   · exact absurd ho (by simpa[h]using b)
   · omega
  subst q
  exact A2 C U U U λ w M s=>⟨u,M,rfl,trivial,s.st.done,AD (by rw[<-l];exact s.f.get (k:=1) U) A3⟩
theorem Aw6(f:Fl)(v:Value)(M:Mem)(w:World)(hM:Sat w M)(hl:(A6 v f).ok M)(hb:len f<=1048576)(S: ∀t∈f,len t.name<=1000000/\len t.s<=1000000/\len t.c.s<=1000000):
    Calls prog 17 [v].toArray w λ e w'=>(∃b,e= .returned (.bool b)/\(b=true-> ∃x:Tf,f=x.flat/\x.VT))/\Ext w w':=by
 refine AH (Hr:=[]) AF func17 U ntmps17 [(0,A6 v f)] [] [.sl 0 v] U (Aj hM) (AD hl A3) (λ B T=>?_) U
 refine FM (γ:=Bool) (pu:=λ b=>b=true-> ∃x:Tf,f=x.flat/\x.fU) (Fg:=λ _=>[]) (λ b:Bool=>.v (.bool b)) [] U U call20 U (λ w M j=>(Ag5 f v M w j.st.sat (j.sl 0 U) Aa (λ t ht=>by have:=S t ht;omega)).mono λ e w' he=>by
   obtain⟨⟨b,e1,e2⟩,e3⟩:=he
   exact⟨b,M,e1,e2,Grow.T9 j.st.sat e3,A3⟩) λ b hbr=>?_
 refine A1 U (λ h1=>?_) (λ h1=>?_)
 ·exact A2 T rfl rfl rfl λ w M j=>⟨⟨false,rfl,λ h=>by cases h⟩,j.st.low⟩
 obtain⟨x,rfl,hr⟩:=hbr (by simpa using h1)
 have hlp:=x.EW
 have hw:CX x=true:=i1 x.size x (Nat.le_refl _) hr.all
 refine B7 (σ:=Int×List Tf) (λ(i,us)=>⟨[(0,A6 v x.flat)],[],[Z 0 (.sl 0 v),Z 3 (I i)]⟩) (λ(i,us)=>D8 x.flat i us []/\T5 x=JW us/\ ∀u∈us,CX u=true) (λ(i,us)=>(len x.flat-i).toNat) (0,[x]) U U ⟨⟨Aa,by show x.flat=(x.flat++AN [])++[];simp[AN]⟩,by show _=(T5 x&&true);rw[Bool.and_true],λ u hu=>by rw[List.mem_singleton.1 hu];exact hw⟩ ?_
 rintro⟨i,us⟩ ⟨G,O,V⟩
 have W:=G.1
 refine A1 U (λ P=>?_) (λ P=>?_)<;>simp only[zb]at P
 ·cases us with
  |nil=>
   exfalso
   have h2:=G.2
   have h3:(x.flat.drop i.toNat).length=0:=by rw[h2];rfl
   rw[List.length_drop]at h3
   unfold len at P;omega
  |cons u us=>
  obtain⟨Q,hq,q⟩:=G.step
  have A:(at' x.flat i).many=len u.ps:=by rw[hq]
  have R:(at' x.flat i).op=u.t.op:=by rw[hq]
  have H:(at' x.flat i).n=u.t.n:=by rw[hq]
  have hpn:=A8 u.ps
  have hfl:=q.KM Aa
  rw[J8,AO]at hfl
  have hfg:=JJ u.ps
  have hfu:=A8 (AN us)
  have hfr:len ([]:Fl)=0:=rfl
  have X:=V u (.head _)
  have J: ∀z∈u.ps++us,CX z=true:=λ z K=>by
   rcases List.mem_append.1 K with K|K
   · exact(VH (VI X).2 z K).1
   · exact V z (.tail _ K)
  have C:=Aw4 u us
  refine A1 U (λ L=>?_) (λ L=>?_)<;>simp only[zb]at L<;>rw[R]at L
  ·refine AX (i+1,u.ps++us) U U ⟨q,?_,J⟩ Ag
   rw[O,C];unfold ZM;rw[if_neg L,Bool.true_and]
  have N:u.t.op=1:=by omega
  have D:=gF X N
  have l:Eng.sub x.flat (i+1) (i+1+(at' x.flat i).many)=u.ps.map Tf.node:=by rw[A];exact sH q λ z K=>(D.2 z K).1
  have E: ∀a∈u.ps.map Tf.node,AtR a:=λ a ha=>by
   obtain⟨z,K,rfl⟩:=List.mem_map.1 ha
   refine Aw5 (sI (D.2 z K).2 (S z.node ?_).2.2)
   have h2:z.node∈Eng.sub x.flat (i+1) (i+1+(at' x.flat i).many):=by rw[l];exact ha
   unfold Eng.sub at h2
   exact List.mem_of_mem_drop (List.mem_of_mem_take h2)
  have F:(T3 (at' x.flat i).n (Eng.sub x.flat (i+1) (i+1+(at' x.flat i).many))).2=true->T5 x=JW (u.ps++us):=λ h=>by
   rw[l,H]at h
   rw[O,C];unfold ZM;rw[if_pos N,h,Bool.true_and]
  have hml:len (u.ps.map Tf.node)=len u.ps:=by unfold len;rw[List.length_map]
  refine D7 [7,8,12,13] 5 (λ _ _ _ _ _ h=>h) U BK Ac <|FZ 7 12 U U U ?_ ?_
  ·refine FM (λ u:Value=>.sl 25 u) [25] (Fg:=λ u=>[(0,kn u 7 (Eng.sub x.flat (i+1) (i+1+(at' x.flat i).many)) C2)]) (pu:=λ _=>True) U U call41 U (λ w M j=>uZ v x.flat i j.st.sat (j.f.get (k:=0) U) hb W Q (by rw[R];exact N) (by rw[A];omega) (by rw[A];omega)) λ v25 _=>AE U <|FZ 8 12 U U U ?_ ?_
   ·exact AJ U call40 U U (λ _ w M j=>gZ (at' x.flat i).n v25 (Eng.sub x.flat (i+1) (i+1+(at' x.flat i).many)) j.st.sat (j.f.get (k:=25) U) (by rw[l];omega) (by rw[l];exact E) (by rw[H];exact D.1)) U <|AE U <|AK 12 U U U <|B9 55 U zeroValue46 U λ b5=>AE U <|AK 13 U U U <|AE U <|BL U U U <|A1 U (λ y=>A2 T rfl rfl rfl λ w M j=>⟨⟨false,rfl,λ h=>by cases h⟩,j.st.low⟩) (λ y=>AX (i+1,u.ps++us) U U ⟨q,F (by simpa using y),J⟩ Ag)
   ·exact B9 55 U zeroValue46 U λ b5=>AE U <|AK 8 U U U <|AJ U call40 U U (λ _ w M j=>gZ (at' x.flat i).n v25 (Eng.sub x.flat (i+1) (i+1+(at' x.flat i).many)) j.st.sat (j.f.get (k:=25) U) (by rw[l];omega) (by rw[l];exact E) (by rw[H];exact D.1)) U <|AE U <|AK 13 U U U <|AE U <|BL U U U <|A1 U (λ y=>A2 T rfl rfl rfl λ w M j=>⟨⟨false,rfl,λ h=>by cases h⟩,j.st.low⟩) (λ y=>AX (i+1,u.ps++us) U U ⟨q,F (by simpa using y),J⟩ Ag)
  ·exact B9 55 U zeroValue46 U λ b5=>AE U <|AK 7 U U U <|FM (λ u:Value=>.sl 25 u) [25] (Fg:=λ u=>[(0,kn u 7 (Eng.sub x.flat (i+1) (i+1+(at' x.flat i).many)) C2)]) (pu:=λ _=>True) U U call41 U (λ w M j=>uZ v x.flat i j.st.sat (j.f.get (k:=0) U) hb W Q (by rw[R];exact N) (by rw[A];omega) (by rw[A];omega)) λ v25 _=>AE U <|AK 8 U U U <|AJ U call40 U U (λ _ w M j=>gZ (at' x.flat i).n v25 (Eng.sub x.flat (i+1) (i+1+(at' x.flat i).many)) j.st.sat (j.f.get (k:=25) U) (by rw[l];omega) (by rw[l];exact E) (by rw[H];exact D.1)) U <|AE U <|AK 13 U U U <|AE U <|BL U U U <|A1 U (λ y=>A2 T rfl rfl rfl λ w M j=>⟨⟨false,rfl,λ h=>by cases h⟩,j.st.low⟩) (λ y=>AX (i+1,u.ps++us) U U ⟨q,F (by simpa using y),J⟩ Ag)
 ·have hun:us=[]:=by
   cases us with
   |nil=>rfl
   |cons u us=>obtain⟨Q,_⟩:=G.step;omega
  subst hun
  exact A2 T U U U λ w M j=>⟨⟨true,rfl,λ _=>⟨x,rfl,hr,by rw[O];rfl⟩⟩,j.st.low⟩
theorem Aw7(f:Fl)(v:Value)(m:Int)(M:Mem)(w:World)(q:Sat w M)(hl:(A6 v f).ok M)(hm:0<=m/\m<=1048576):
   Calls prog 32 [v,i64 m].toArray w λ e w'=>(∃b,e= .returned (.bool b)/\(b=true->N6 m f=true/\ ∃x:Tf,f=x.flat/\x.VT))/\Ext w w':=by
 refine AH (Hr:=[]) AF func32 U ntmps32 [(0,A6 v f)] [] [.sl 0 v,I m] U (Aj q) (AD hl A3) (λ B n=>AJ U call75 U U (λ _ w M i=>Af2 f v m M w i.st.sat (i.sl 0 U) hm) U <|GB (.v (.bool false)) U U (λ hs=>?_) (λ hs=>?_)) U
 ·have j:=hs
  unfold N6 at j
  simp only[Bool.and_eq_true,decide_eq_true_eq,List.all_eq_true]at j
  refine FM (γ:=Bool) (pu:=λ b=>b=true-> ∃x:Tf,f=x.flat/\x.VT) (Fg:=λ _=>[]) (λ b:Bool=>.v (.bool b)) [] U U call17 U (hE1:=NT hs U) (λ w M i=>(Aw6 f v M w i.st.sat (i.f.get (k:=0) U) Aa (λ t s=>by have:=j.2 t s;omega)).mono λ e w' he=>by
   obtain⟨⟨b,y,e2⟩,e3⟩:=he
   exact⟨b,M,y,e2,Grow.T9 i.st.sat e3,A3⟩) λ b l=>?_
  exact A2 n U U U λ w M i=>⟨⟨b,by rw[hs];rfl,λ h=>⟨hs,l h⟩⟩,i.st.low⟩
 ·exact A2 n rfl rfl rfl λ w M i=>⟨⟨false,by rw[hs];rfl,λ h=>by cases h⟩,i.st.low⟩
end Go.Proofs.YtnoegalemkbbbaaGreatDoor
namespace Go.Eng
open Go.RowKit
def L6:Tf:=.mk { AV 16 with s:=[46,97],n:=4,c:=⟨3,0,[],[49],false,0⟩} []
def IX:Tf:=.mk (AV 5) [.mk (AV 4) [.mk (AV 7) [L6],.mk { AV 1 with s:=[98]} []]]
def vA:Tf:=.mk { AV 1 with n:=8,name:=[97]} []
def T6:Tf:=.mk (AV 2) [vA,.mk { AV 1 with n:=16,name:=[98]} []]
def NJ:Tf:=.mk (AV 5) [T6]
def P0:Tf:=.mk (AV 2) [vA]
theorem vB:IX.B3:=⟨by simp[IX,L6,Tf.zm,HA,AV],Ac⟩
theorem Aw8:L6.B3:=⟨by simp[L6,Tf.zm,HA,AV],Ac⟩
theorem vC:AU IX:=by unfold AU JE;decide+kernel
theorem Aw9:AU L6:=by unfold AU JE;decide+kernel
theorem Ax0:AU NJ:=by unfold AU JE;decide+kernel
theorem Ax1:AU T6:=by unfold AU JE;decide+kernel
theorem Ax2:AU P0:=by unfold AU JE;decide+kernel
theorem al1:(JT IX NJ).2.2=0/\len (JT IX NJ).1=2/\(at' (JT IX NJ).1 1).n=16:=by decide+kernel
theorem al2:(JT IX T6).2=(0,1):=by decide+kernel
theorem al3:(KE L6 P0).2.2=0/\len (KE L6 P0).1=3:=by decide+kernel
theorem Ax6{t:Tm}(h:HQ t=true)(ho:t.op=3\/(5<=t.op/\t.op<=8)):t.many=1:=by
 unfold HQ I9 at h
 rw[if_neg Aa,if_neg Aa,if_neg Aa,if_neg Aa,if_neg Aa]at h
 by_cases h3:t.op=3\/t.op=5\/t.op=6
 ·rw[if_pos h3]at h
  simp only[Bool.and_eq_true,beq_iff_eq]at h
  exact h.1
 ·rw[if_neg h3,if_pos Aa]at h
  simp only[Bool.and_eq_true,beq_iff_eq]at h
  exact h.1.2
theorem Ax7: ∀(n:Nat) (x:Tf),x.size<=n->CX x=true->B8 x=true:=by
 intro n
 induction n with
 |zero=>intro x h;have:=x.size_pos;omega
 |succ n e=>
  intro x j hw
  have hs:=x.size_eq
  obtain⟨h1,i⟩:=VI hw
  rw[Z0,Bool.and_eq_true,VL]
  refine⟨?_,λ y b=>e y (by have:=I8 b;omega) (VH i y b).1⟩
  unfold QL
  simp only[Bool.and_eq_true,Bool.or_eq_true,Bool.not_eq_true',decide_eq_true_eq,decide_eq_false_iff_not,Bool.or_eq_false_iff,List.all_eq_true,List.isEmpty_iff]
  refine⟨?_,?_⟩
  ·by_cases h3:x.t.op=1
   ·exact .inr λ y b=>((gF hw h3).2 y b).1
   ·exact .inl h3
  ·by_cases h3:x.t.op=3\/(5<=x.t.op/\x.t.op<=8)
   ·exact .inr (Ax6 h1 h3)
   ·exact .inl ⟨Aa,Aa⟩
structure VU (f:Fl) (x:Tf):Prop where
 eq:f=x.flat
 B3:x.B3
 name:x.t.name=[]
 cond:F9 x.t=false
 size:x.size<=40
 sh:AU x
structure ZN (t:Fl) (x:Tf):Prop where
 eq:t=x.flat
 B3:x.VT
 ar:B8 x=true
 size:x.size<=40
 sh:AU x
theorem Ax8{f:Fl}(h:Q4 f 40=true): ∃x,VU f x:=by
 obtain⟨x,h1,b,e,i,l,j⟩:=AW9 h
 have n:len f=x.size:=by rw[b];unfold len;rw[Tf.D5]
 exact⟨x,b,h1,e,i,Aa,λ t k=>by have:=j t (by rw[b];exact k);exact⟨this.2.1,this.1,this.2.2⟩⟩
theorem Ax9{t:Fl}(h:N6 40 t=true)(i: ∃x:Tf,t=x.flat/\x.VT): ∃x,ZN t x:=by
 obtain⟨x,b,e⟩:=i
 unfold N6 at h
 simp only[Bool.and_eq_true,decide_eq_true_eq,List.all_eq_true]at h
 have j:len t=x.size:=by rw[b];unfold len;rw[Tf.D5]
 exact⟨x,b,e,Ax7 x.size x (Nat.le_refl _) (i1 x.size x (Nat.le_refl _) e.right.all),Aa,λ u hu=>by have:=h.2 u (by rw[b];exact hu);exact⟨this.1.2,this.1.1,this.2⟩⟩
end Go.Eng
namespace Go.Proofs.YtnoegalemkbbbaaGreatDoor
open Go.Proofs.Tryz
open Go.Eng Go.RowKit
theorem vD(w:World)(hg:Gl w):
  Calls prog 11 [].toArray w λ e w'=>e= .returned (.bool true)/\Ext w w':=by
 obtain⟨a1,a2,a3⟩:=al1
 obtain⟨c1,c2⟩:=al3
 obtain⟨z1,hz1⟩: ∃z,z=(JT IX NJ).1:=⟨_,rfl⟩
 obtain⟨y1,hy1⟩: ∃z,z=(JT IX NJ).2.1:=⟨_,rfl⟩
 obtain⟨z2,hz2⟩: ∃z,z=(JT IX T6).1:=⟨_,rfl⟩
 obtain⟨z3,hz3⟩: ∃z,z=(KE L6 P0).1:=⟨_,rfl⟩
 obtain⟨y3,hy3⟩: ∃z,z=(KE L6 P0).2.1:=⟨_,rfl⟩
 have e1:JT IX NJ=(z1,y1,0):=by rw[hz1,hy1];exact Prod.ext U (Prod.ext U a1)
 have e2:JT IX T6=(z2,0,1):=by rw[hz2];exact Prod.ext U al2
 have e3:KE L6 P0=(z3,y3,0):=by rw[hz3,hy3];exact Prod.ext U (Prod.ext U c1)
 rw[<-hz1]at a2 a3
 rw[<-hz3]at c2
 refine AH AF func11 U ntmps11 [] [] [] U (BE w) A3 (λ B hB=>?_) U
 refine B9 9 U zeroValue46 U λ b1=>?_
 refine BH 1 IX.flat Tm.cells 11 48 Tm.AS U U Ah U λ v1=>?_
 refine BH 2 NJ.flat Tm.cells 11 52 Tm.AS U U Ah U λ v2=>?_
 refine FM (λ h:AI=>.tu [.sl 3 h.v,I y1,I 0]) [3] U U call16 U (hu:=λ _=>rfl) (λ w M hX=>by have:=u7 IX NJ v1 v2 w M hX.st.sat (hg.low hX.st.low) (hX.f.get (k:=1) U) (hX.f.get (k:=2) U) vB vC Ac Ax0 Ab Ab;rw[e1]at this;exact this) λ h3 _=>?_
 refine ET (gd:=none) 4 1 4 U U U ⟨.i64,_,rfl,AG U⟩ U underlying25 sizeOf52 Ab U λ v4=>?_
 refine FM (λ h:AI=>.tu [.sl 5 h.v,I 0,I 1]) [5] U U call16 U (hu:=λ _=>rfl) (λ w M hX=>by have:=u7 IX T6 v1 v4 w M hX.st.sat (hg.low hX.st.low) (hX.f.get (k:=1) U) (hX.f.get (k:=4) U) vB vC Ac Ax1 Ab Ab;rw[e2]at this;exact this) λ h5 _=>?_
 refine ET (gd:=none) 6 3 4 U U U ⟨.i64,_,rfl,AG U⟩ ⟨.i64,_,rfl,AG U⟩ underlying23 sizeOf48 Ab U λ v6=>?_
 refine BH 7 P0.flat Tm.cells 11 52 Tm.AS U U Ah U λ v7=>?_
 refine FM (λ h:AI=>.tu [.sl 8 h.v,I y3,I 0]) [8] U U call12 U (hu:=λ _=>rfl) (λ w M hX=>by have:=uA L6 P0 v6 v7 w M hX.st.sat (hg.low hX.st.low) (hX.f.get (k:=6) U) (hX.f.get (k:=7) U) Aw8 Ab Aw9 Ac Ax2 Ab;rw[e3]at this;exact this) λ h8 _=>?_
 have hall:((((((((0:Int)==0)&&(len z1==2))&&((at' z1 1).n==16))&&((0:Int)==0))&&((1:Int)==1))&&((0:Int)==0))&&(len z3==3))=true:=by rw[a2,a3,c2];rfl
 refine GB (.v (.slice none 0 0)) U U (λ hn=>?_) (λ hn=>absurd (hn.symm.trans hall) Ab)
 refine BH 10 [JF [97]] Tm.cells 11 48 Tm.AS U U (hE1:=N5 hn λ c hc=>by simpa using hc) Ah U λ v10=>?_
 refine GB (.v (.slice none 0 0)) U U (λ hn=>?_) (λ hn=>absurd (hn.symm.trans hall) Ab)
 refine FM (λ u:Value=>.sl 11 u) [11] (pu:=λ _=>True) (Fg:=λ u=>[(0,kn u 3 (D2 [JF [97]]) Sp.cells)]) U U call28 U (λ w M hX=>(rY 1 [JF [97]] (Nat.le_refl _) U (Aj hX.st.sat) (hX.f.get (k:=10) U) Ab).mono λ e w' ⟨u,M',h1,_,h3,h4,h5⟩=>⟨u,M',h1,trivial,h4.done,h5⟩) λ v11 _=>?_
 refine A2 hB U U U λ w M hX=>⟨?_,hX.st.low⟩
 dsimp only
 rw[a2,a3,c2];rfl
theorem Ay0(f t:Fl)(v u:Value)(w:World)(M:Mem)(q:Sat w M)(s:(A6 v f).ok M)(hu:(A6 u t).ok M):
    Calls prog 9 [v,u].toArray w λ e w'=>(∃b,e= .returned (.bool b)/\(b=true->(∃x,VU f x)/\ ∃y,ZN t y))/\Ext w w':=by
 refine AH (Hr:=[]) AF func9 U ntmps9 [(0,A6 v f),(1,A6 u t)] [] [.sl 0 v,.sl 1 u] U (Aj q) (AD s (AD hu A3)) (λ B n=>AJ U call22 U U (λ _ w M i=>At1 f v 40 M w i.st.sat (i.sl 0 U) Aa) U <|GB (.v (.bool false)) U U (λ j=>?_) (λ j=>?_)) U
 ·refine FM (γ:=Bool) (pu:=λ b=>b=true-> ∃y,ZN t y) (Fg:=λ _=>[]) (λ b:Bool=>.v (.bool b)) [] U U call32 U (hE1:=NT j U) (λ w M i=>(Aw7 t u 40 M w i.st.sat (i.f.get (k:=1) U) Aa).mono λ e w' he=>by
   obtain⟨⟨b,z,e2⟩,e3⟩:=he
   exact⟨b,M,z,λ h=>Ax9 (e2 h).1 (e2 h).2,Grow.T9 i.st.sat e3,A3⟩) λ b l=>?_
  exact A2 n U U U λ w M i=>⟨⟨b,by rw[j];rfl,λ h=>⟨Ax8 j,l h⟩⟩,i.st.low⟩
 ·exact A2 n rfl rfl rfl λ w M i=>⟨⟨false,by rw[j];rfl,λ h=>by cases h⟩,i.st.low⟩
end Go.Proofs.YtnoegalemkbbbaaGreatDoor
namespace Go.Eng
open Go.RowKit
theorem vE: ∀(p:List Sp) (x:Tf),(B1 p x).2=true->EP p x=some (B1 p x).1
 |[],x,_=>rfl
 |s::p,x,h=>by
  unfold B1 at h ⊢
  unfold EP
  by_cases hc:x.t.op≠2\/s.part=true
  ·rw[if_pos hc]at h;cases h
  ·rw[if_neg hc]at h;rw[if_neg hc,if_neg hc]
   have key: ∀(l:List Tf) (o:Int),(EJ l o s.name (B1 p)).2=true->JO l o s.name (EP p)=some (EJ l o s.name (B1 p)).1:=by
    intro l
    induction l with
    |nil=>intro o h;cases h
    |cons y l b=>
     intro o h
     unfold EJ at h ⊢
     unfold JO
     by_cases hn:y.t.name=s.name
     ·rw[if_pos hn]at h;rw[if_pos hn,if_pos hn]
      by_cases hy:(B1 p y).2=true
      ·rw[if_pos hy,vE p y hy];rfl
      ·rw[if_neg hy]at h;cases h
     ·rw[if_neg hn]at h;rw[if_neg hn,if_neg hn]
      have e:len y.flat=(y.size:Int):=by unfold len;rw[Tf.D5]
      rw[e]at h ⊢
      exact b _ h
   exact key x.ps 1 h
theorem vF: ∀(p:List Sp) (x:Tf),(B1 p x).2=false->(B1 p x).1=0
 |[],x,_=>rfl
 |s::p,x,h=>by
  unfold B1 at h ⊢
  by_cases hc:x.t.op≠2\/s.part=true
  ·rw[if_pos hc]
  ·rw[if_neg hc]at h ⊢
   have key: ∀(l:List Tf) (o:Int),(EJ l o s.name (B1 p)).2=false->(EJ l o s.name (B1 p)).1=0:=by
    intro l
    induction l with
    |nil=>intro o h;rfl
    |cons y l b=>
     intro o h
     unfold EJ at h ⊢
     by_cases hn:y.t.name=s.name
     ·rw[if_pos hn]at h ⊢
      by_cases hy:(B1 p y).2=true
      ·rw[if_pos hy]at h;cases h
      ·rw[if_neg hy]
     ·rw[if_neg hn]at h ⊢;exact b _ h
   exact key x.ps 1 h
end Go.Eng
namespace Go.Proofs.YtnoegalemkbbbaaGreatDoor
open Go.Proofs.Tryz
open Go.Eng Go.RowKit
theorem vG{w0 s:World}{M0 M:Mem}{Rs:List HO}(p:List Sp)(t:Tf)(v u:Value)(hS:St w0 M0 s M Rs)(y:(A6 v t.flat).ok M)(hu:(kn u 3 p Sp.cells).ok M)(C:len t.flat<=1048576)(j:len p<=1048576):
    Calls prog 139 [v,u].toArray s (BF w0 M0 M Rs (λ _:Unit=>.tuple #[i64 (B1 p t).1,.bool (B1 p t).2]) (λ _=>True) (λ _=>[]) λ _=>[]):=by
 have z:=DS t
 have h:=hY p t
 refine AH (Hr:=Rs) AF func139 U ntmps139 [(0,A6 v t.flat),(1,kn u 3 p Sp.cells)] [] [.sl 0 v,.sl 1 u] U hS (AD y (AD hu A3)) (λ B q=>?_) U
 cases hl:EP p t with
 |none=>
  rw[hl]at h
  have l:(B1 p t).2=false:=h
  have h1:=vF p t l
  refine AJ U call68 U U (λ _ w M b=>by have:=fT p t.flat v u 0 t [] M w b.st.sat (b.sl 0 U) (b.sl 1 U) Aa j ⟨Int.le_refl 0,[],[],by show _=t.flat++[]++[];simp,rfl⟩;rw[hl]at this;rw[show M4 0 none= -1 from rfl]at this;exact this) U ?_
  refine sB ⟨[],[],[Z 0 (.sl 0 v),Z 9 (I (-1))]⟩ U ?_
  refine GB (I 0) U U (λ i=>absurd i Ab) (λ i=>?_)
  refine GB (I 0) U U (λ i=>absurd i Ab) (λ i=>?_)
  refine GB (I 0) U U (λ i=>absurd i Ab) (λ i=>?_)
  refine A1 U (λ e=>?_) (λ e=>?_)
  ·exact A2 q U U U λ w M' b=>⟨(),M',by rw[h1,l];rfl,trivial,b.le,b.st,A3⟩
  ·cases e
 |some k=>
  obtain⟨D,E⟩:=YW p t k hl
  rw[hl]at h
  have l:(B1 p t).2=((at' t.flat k).op==1):=h
  refine AJ U call68 U U (λ _ w M b=>by have:=fT p t.flat v u 0 t [] M w b.st.sat (b.sl 0 U) (b.sl 1 U) Aa j ⟨Int.le_refl 0,[],[],by show _=t.flat++[]++[];simp,rfl⟩;rw[hl]at this;rw[show M4 0 (some k)=k from Int.zero_add k]at this;exact this) U ?_
  refine A1 U (λ e=>?_) (λ e=>?_)
  ·have n:(B1 p t).2=false:=by rw[l];have:=e;simp[zb]at this;simp;omega
   have h1:=vF p t n
   exact A2 q U U U λ w M' b=>⟨(),M',by rw[h1,n];rfl,trivial,b.le,b.st,A3⟩
  ·have n:(B1 p t).2=true:=by rw[l];have:=e;simp[zb]at this;simp;omega
   have A:(B1 p t).1=k:=by have:=vE p t n;rw[hl]at this;exact(Option.some.inj this).symm
   exact A2 q U U U λ w M' b=>⟨(),M',by rw[A,n];rfl,trivial,b.le,b.st,A3⟩
end Go.Proofs.YtnoegalemkbbbaaGreatDoor
namespace Go.Eng
open Go.RowKit
theorem i6{l:Fl}{i j:Int}(h0:0<=i)(h1:i<=j)(b:j<=len l):len (Eng.sub l i j)=j-i:=by
 unfold Eng.sub;unfold len at*;rw[List.length_take,List.length_drop];omega
theorem Ay1(l:Fl){i:Int}(a:Tm)(h0:0<=i)(h1:i<len l)(hm:0<=(at' l i).many):
  F0 l i a=(Eng.sub l 0 i++[{ at' l i with many:=(at' l i).many+1}])++Eng.sub l (i+1) (i+1+(at' l i).many)++[({ AV 9 with n:=a.n,c:=a.c}:Tm)]++Eng.sub l (i+1+(at' l i).many) (len l):=by
 obtain⟨y,h⟩: ∃y,y=({ at' l i with many:=(at' l i).many+1}:Tm):=⟨_,rfl⟩
 unfold F0 IS Eng.sub
 rw[<-h]
 obtain⟨m,e⟩: ∃m:Nat,(at' l i).many=m:=⟨(at' l i).many.toNat,Aa⟩
 obtain⟨k,rfl⟩: ∃k:Nat,i=k:=⟨i.toNat,Aa⟩
 rw[e]
 have j:k<l.length:=by unfold len at h1;omega
 have q:((k:Int)+m+1).toNat=k+(m+1):=by omega
 have e2:((k:Int)+1).toNat=k+1:=by omega
 have e3:((k:Int)+1+m).toNat=k+1+m:=by omega
 have e5:k+1+m-(k+1)=m:=by omega
 have s:(len l).toNat=l.length:=by unfold len;omega
 rw[q,e2,e3,e5,s,Int.toNat_natCast,Int.toNat_zero,List.drop_zero,Nat.sub_zero,List.set_eq_take_append_cons_drop,if_pos j]
 have b:(l.take k).length=k:=by rw[List.length_take];omega
 have t1:(l.take k++y::l.drop (k+1)).take (k+(m+1))=l.take k++y::(l.drop (k+1)).take m:=by
  have:=List.take_length_add_append (l₁:=l.take k) (l₂:=y::l.drop (k+1)) (i:=m+1)
  rw[b]at this
  rw[this];rfl
 have t2:(l.take k++y::l.drop (k+1)).drop (k+(m+1))=l.drop (k+1+m):=by
  have:=List.drop_length_add_append (l₁:=l.take k) (l₂:=y::l.drop (k+1)) (i:=m+1)
  rw[b]at this
  rw[this]
  show(l.drop (k+1)).drop m=_
  rw[List.drop_drop]
 rw[t1,t2]
 have t3:(l.drop (k+1+m)).take (l.length-(k+1+m))=l.drop (k+1+m):=by rw[List.take_of_length_le];rw[List.length_drop];omega
 rw[t3]
 simp
end Go.Eng
namespace Go.Proofs.YtnoegalemkbbbaaGreatDoor
open Go.Proofs.Tryz
open Go.Eng Go.RowKit
theorem Ay2{w0 i:World}{M0 M:Mem}{Rs:List HO}{v u:Value}{t:Tf}{p:List Sp}{a:Tm}(hS:St w0 M0 i M Rs)(hl:(A6 v t.flat).ok M)(hu:(kn u 3 p Sp.cells).ok M)(q:len t.flat<=1048576)(e:len p<=1048576)(h:(B1 p t).2=false):
   Calls prog 84 [v,u,QF a].toArray i (BF w0 M0 M Rs (λ _:Unit=>.tuple #[.slice none 0 0,i64 6]) (λ _=>True) (λ _=>[]) λ _=>[]):=by
 refine AH (Hr:=Rs) AF func84 U ntmps84 [(0,A6 v t.flat),(1,kn u 3 p Sp.cells)] [] [.sl 0 v,.sl 1 u,.ag (I a.n::E8 a.c.cells)] U hS (AD hl (AD hu A3)) (λ B l=>BM 5 U U U λ s=>AP [] (λ _:Unit=>.tu [I (B1 p t).1,.v (.bool (B1 p t).2)]) [] (λ _=>[]) (Fg:=λ _=>[]) (pu:=λ _=>True) U U call139 U U (λ w M hS hF=>vG p t v u hS (hF.get (k:=0) U) (hF.get (k:=1) U) Aa e) λ _ _=>?_) U
 rw[h]
 refine A1 U (λ b=>?_) (λ b=>?_)
 ·exact A2 l U U U λ w M' j=>⟨(),M',rfl,trivial,j.le,j.st.drop _ (List.sublist_cons_self _ _),A3⟩
 ·cases b
theorem Ay3{w0 C:World}{M0 M:Mem}{Rs:List HO}{v u:Value}{t:Tf}{p:List Sp}{a:Tm}{i:Int}(hS:St w0 M0 C M Rs)(hl:(A6 v t.flat).ok M)(hu:(kn u 3 p Sp.cells).ok M)(S:len t.flat<=1048576)(q:len p<=1048576)(h:B1 p t=(i,true))(hm:0<=(at' t.flat i).many/\i+(at' t.flat i).many+1<=len t.flat):
   Calls prog 84 [v,u,QF a].toArray C (BF w0 M0 M Rs (λ g:Value=>.tuple #[g,i64 0]) (λ _=>True) (λ _=>[]) λ g=>[HL g (F0 t.flat i a)]):=by
 have hi:=V7 p t
 rw[h]at hi
 have s:(B1 p t).1=i:=by rw[h]
 have y:(B1 p t).2=true:=by rw[h]
 have b:0<=i:=hi.1
 have z:i<len t.flat:=hi.2
 obtain⟨A,E⟩:=hm
 have F:len (Eng.sub t.flat 0 i)=i:=by rw[i6 (Int.le_refl 0) b Aa];omega
 have G:len (Eng.sub t.flat (i+1) (i+1+(at' t.flat i).many))=(at' t.flat i).many:=by rw[i6 Aa Aa Aa];omega
 have H:len (Eng.sub t.flat (i+1+(at' t.flat i).many) (len t.flat))=len t.flat-(i+1+(at' t.flat i).many):=i6 Aa Aa Aa
 have j:=Ay1 t.flat a b z A
 refine AH (Hr:=Rs) AF func84 U ntmps84 [(0,A6 v t.flat),(1,kn u 3 p Sp.cells)] [] [.sl 0 v,.sl 1 u,.ag (I a.n::E8 a.c.cells)] U hS (AD hl (AD hu A3)) (λ B J=>BM 5 U U U λ T=>AP [] (λ _:Unit=>.tu [I (B1 p t).1,.v (.bool (B1 p t).2)]) [] (λ _=>[]) (Fg:=λ _=>[]) (pu:=λ _=>True) U U call139 U U (λ w M hS hF=>vG p t v u hS (hF.get (k:=0) U) (hF.get (k:=1) U) Aa q) λ _ _=>?_) U
 rw[s,y]
 refine A1 U (λ l=>?_) (λ l=>?_)
 ·cases l
 refine B9 10 U zeroValue52 U λ K=>IG 12 ([]:Fl) Tm.cells 11 52 Tm.AS U U Ah U λ v12=>ET (gd:=none) 13 0 i U U U U ⟨.i64,_,rfl,AG U⟩ underlying25 sizeOf52 Aa U λ L=>G9 120 U U U underlying25 type52 U U Tm.cells_one (by simp only[len_nil];omega) λ N=>BH 14 [({ at' t.flat i with many:=(at' t.flat i).many+1}:Tm)] Tm.cells 11 52 Tm.AS U U Ah U λ O=>G9 120 U U U underlying25 type52 U U Tm.cells_one (by simp only[AO,AL,len_nil];omega) λ P=>ET (gd:=none) 15 (i+1) (i+1+(at' t.flat i).many) U U U ⟨.i64,_,rfl,AG U⟩ ⟨.i64,_,rfl,AG U⟩ underlying25 sizeOf52 Aa U λ v17=>G9 120 U U U underlying25 type52 U U Tm.cells_one (by simp only[AO,AL,len_nil];omega) λ Q=>BH 16 [({ AV 9 with n:=a.n,c:=a.c}:Tm)] Tm.cells 11 52 Tm.AS U U Ah U λ R=>G9 120 U U U underlying25 type52 U U Tm.cells_one (by simp only[AO,AL,len_nil];omega) λ v20=>ET (gd:=none) 17 (i+1+(at' t.flat i).many) (len t.flat) U U U ⟨.i64,_,rfl,AG U⟩ U underlying25 sizeOf52 Aa U λ v21=>G9 120 U U U underlying25 type52 U U Tm.cells_one (by simp only[AO,AL,len_nil];omega) λ v22=>?_
 have e:((([]++Eng.sub t.flat 0 i++[({ at' t.flat i with many:=(at' t.flat i).many+1}:Tm)])++Eng.sub t.flat (i+1) (i+1+(at' t.flat i).many))++[({ AV 9 with n:=a.n,c:=a.c}:Tm)])++Eng.sub t.flat (i+1+(at' t.flat i).many) (len t.flat)=F0 t.flat i a:=by rw[j];rfl
 exact A2 J U U U λ w M' D=>⟨v22,M',rfl,trivial,D.le,by rw[<-e];exact D.B6 [12] U,A3⟩
end Go.Proofs.YtnoegalemkbbbaaGreatDoor
namespace Go.Eng
open Go.RowKit
structure vH (i:Int) (n:Nat) (e p:Int):Prop where
 lo:i<=e
 hi:e<i+n
 why:1<=p/\p<=6
theorem vH.at {i:Int}{n:Nat}{p e q:Int}(h:(.er i p:PR Tf)= .er e q)(b:1<=n)(hp:1<=p/\p<=6):vH i n e q:=by cases h;exact⟨Aa,Aa,hp⟩
structure OkF (f:Tf):Prop where
 B3:f.B3
 sh:AU f
 name:f.t.name=[]
 cond:F9 f.t=false
theorem VU.ok {l:Fl}{f:Tf}(h:VU l f):OkF f:=⟨h.B3,h.sh,h.name,h.cond⟩
end Go.Eng
namespace Go.Proofs.YtnoegalemkbbbaaGreatDoor
open Go.Proofs.Tryz
open Go.Eng Go.RowKit
theorem Ay5{w0 O:World}{M0 M:Mem}{Rs:List HO}(t:Tm)(j:Value)(ns:List A0)(v:Value)(hs:List AI)(xs:List Fl)(hS:St w0 M0 O M Rs)(R:Sl M 1 ns.length j (ns.flatMap DV))(hu:(C9 v hs xs).ok M)(D:ns=[]\/len ns=len hs)(E:ns≠[]-> ∀x∈xs,x≠[])(hb:len xs.flatten<=100000000000)(hr:len hs<=1048576):
  Calls prog 26 [.agg t.cells.toArray,j,v].toArray O (dD w0 M0 M Rs ({ t with many:=len xs}::(G5 ns xs).flatten)):=by
 have F:=dC hu
 have S:=A8 hs
 have T:=A8 ns
 have G:ns=[]->len ns=0:=λ h=>by rw[h];rfl
 rw[<-F]
 refine AH (Hr:=Rs) AF func26 U ntmps26 [(0,C9 v hs xs),(1,kn j 1 ns DV)] [] [.ag (E8 t.cells),.sl 1 j,.sl 0 v] U hS (AD hu (fc 1 R DO A3)) (λ B V=>BM 3 U U U λ b=>IG 7 [{ t with many:=len hs}] Tm.cells 11 48 Tm.AS U U Ah U λ u=>?_) U
 refine B7 (σ:=Int×Value×Fl) (λ(k,u,y)=>⟨[(0,C9 v hs xs),(1,kn j 1 ns DV)],[(7,XW u y)],[Z 1 (.sl 1 j),Z 2 (.sl 0 v),Z 7 (.sl 7 u),Z 8 (I k)]⟩)
   (λ(k,u,y)=>0<=k/\k<=len hs/\y= { t with many:=len hs}::(G5 ns (Eng.sub xs 0 k)).flatten) (λ(k,u,y)=>(len hs-k).toNat) (0,u,[{ t with many:=len hs}]) U U ⟨Aa,Aa,rfl⟩ ?_
 rintro⟨k,u,y⟩ ⟨h0,h1,A⟩
 refine A1 U (λ n=>?_) (λ n=>?_)<;>simp only[zb]at n
 ·have W:len y=1+len (J7 xs k):=by
   have:=qX ns (Eng.sub xs 0 k)
   rw[A,AL,this]
   have e:Eng.sub xs 0 k=xs.take k.toNat:=by unfold Eng.sub;simp
   rw[e];unfold J7;omega
  have H:=XU (xs:=xs) h0 Aa
  have J:=UQ xs (k+1)
  have X:=A8 (J7 xs k)
  have hf4:=A8 (at' xs k)
  rw[H,AO]at J
  refine CL U Ad Aa <|DW 2 (A6 (at' hs k).v (at' xs k)) (λ w M C=>EN (C.f.get (k:=0) U) h0 n) (MO 28 2 U ?_)
  refine G9 120 U U U underlying23 type48 U U Tm.cells_one Aa λ v'=>CQ 1 (λ s=> ∃z:Fl,z=y++IL ns k (at' xs k)/\s=⟨[(0,C9 v hs xs),(1,kn j 1 ns DV)],[(7,XW v' z)],[Z 1 (.sl 1 j),Z 2 (.sl 0 v),Z 7 (.sl 7 v'),Z 8 (I k)]⟩) U U (λ i=>?_) (λ i=>?_) ?_
  ·simp only[zb]at i
   have q:ns≠[]:=λ h=>by rw[G h]at i;omega
   have K:=E q _ (at_mem (l:=xs) h0 Aa)
   have hxp:=GL K
   have P:len (y++at' xs k)=len y+len (at' xs k):=AO _ _
   have Q:len ns=len hs:=D.resolve_left q
   refine B9 10 U zeroValue48 U λ b10=>I2 { at' (y++at' xs k) (len y)with name:=at' ns k} rfl U U sizeOf48 U U U Aa λ z L=>AT _ U U ⟨z,?_,rfl⟩
   rw[L,Ae5,Ae6];unfold IL;rw[if_pos Aa]
  ·simp only[zb]at i
   exact AT _ U U ⟨_,by unfold IL;rw[if_neg Aa],rfl⟩
  rintro s ⟨z,L,rfl⟩
  refine AX (k+1,v',z) U U ⟨Aa,Aa,?_⟩ Ag
  have N:len (Eng.sub xs 0 k)=k:=by unfold Eng.sub;unfold len at*;rw[List.length_take,List.length_drop];simp only[Int.toNat_zero];omega
  rw[G0 h0 Aa,qW,N,L,A]
  simp
 have hke:k=len hs:=by omega
 rw[GD Aa]at A
 subst A
 exact A2 V U U U λ w M' C=>mO ⟨u,M',rfl,trivial,C.le,C.st,A3⟩
theorem vI{w0 b:World}{M0 M:Mem}{Rs:List HO}(i y:Int)(hS:St w0 M0 b M Rs):
  Calls prog 85 [i64 i,i64 y].toArray b (BF w0 M0 M Rs (λ _:Unit=>.agg #[.slice none 0 0,i64 i,i64 y]) (λ _=>True) (λ _=>[]) λ _=>[]):=AH (Hr:=Rs) AF func85 U ntmps85 [] [] [I i,I y] U hS A3 (λ B h=>B9 3 U zeroValue73 U λ j=>A2 h U U U λ w M' e=>⟨(),M',rfl,trivial,e.le,e.st.drop _ (List.sublist_cons_self _ _),A3⟩) U
end Go.Proofs.YtnoegalemkbbbaaGreatDoor
namespace Go.Eng
open Go.RowKit
theorem i7{b:UInt8}(h:CS b=true):48<=b.toNat/\b.toNat<=57:=by
 unfold CS C5 at h
 simp only[Bool.and_eq_true,decide_eq_true_eq]at h
 omega
theorem vJ: ∀(l:A0) (n:Nat),CD l-> ∃m:Nat,Lib.decFrom n l=some m/\(m:Int)=l.foldl (λ n b=>n*10+((b.toNat:Int)-48)) (n:Int)
 |[],n,_=>⟨n,rfl,rfl⟩
 |b::l,n,h=>by
  have e:=i7 (h b (.head _))
  obtain⟨m,h1,i⟩:=vJ l (n*10+(b.toNat-48)) λ x hx=>h x (.tail _ hx)
  refine⟨m,?_,?_⟩
  ·unfold Lib.decFrom Lib.digitVal
   rw[if_pos e];exact h1
  ·rw[List.foldl_cons,i];congr 1;omega
theorem Ay6{l:A0}(h:CD l)(n:l≠[]):Lib.atoi l=some (CG l):=by
 cases l with
 |nil=>exact absurd U n
 |cons b l=>
  have k:=i7 (h b (.head _))
  obtain⟨m,h1,q⟩:=vJ (b::l) 0 h
  have i: ¬(b==45)=true:=λ e=>by have:=eq_of_beq e;subst this;exact absurd k.1 Ab
  have j: ¬(b==43)=true:=λ e=>by have:=eq_of_beq e;subst this;exact absurd k.1 Ab
  unfold Lib.atoi
  dsimp only
  rw[if_neg i,if_neg j]
  unfold Lib.decNat
  rw[if_neg (by simp),h1]
  show some (m:Int)=_
  rw[q];rfl
theorem vK: ∀(g r:A0),CD g->Lib.indexByte (g++93::r) 93=len g
 |[],r,_=>by show(if(93:UInt8)==93 then(0:Int)else _)=_;rfl
 |b::g,r,h=>by
  have i:=i7 (h b (.head _))
  have j:=vK g r λ x hx=>h x (.tail _ hx)
  have hl:=A8 g
  have k: ¬(b==93)=true:=λ e=>by have:=eq_of_beq e;subst this;exact absurd i.2 Ab
  show Lib.indexByte (b::(g++93::r)) 93=_
  unfold Lib.indexByte
  rw[if_neg k,j,if_neg (by simp;omega),AL]
theorem vL{n:Int}(h0:0<=n)(h1:n<=1000000)(r:A0):F8 ((91::(Lib.itoa n++[93]))++r)=(⟨true,[],n⟩,len (91::(Lib.itoa n++[93]))):=by
 obtain⟨l,b,i,_⟩:=Am2 n h0
 have q:=Am3 h0 h1
 have hp:=GL i
 obtain⟨g,hg⟩: ∃g,g=Lib.itoa n:=⟨_,rfl⟩
 rw[<-hg]at l b i q hp ⊢
 have e:(91::(g++[93]))++r=91::(g++93::r):=by simp
 rw[e]
 have k:Lib.indexByte (91::(g++93::r)) 93=len g+1:=by
  unfold Lib.indexByte
  rw[if_neg Ab,vK g r b,if_neg (by simp;omega)]
 have j:Eng.sub (91::(g++93::r)) 1 (len g+1)=g:=hZ 91 g (93::r)
 unfold F8
 rw[k,if_neg (by rintro(h|h|h);cases h;omega;omega),j,Ay6 b i]
 dsimp only
 rw[l,if_neg (by rintro(h|h|h);omega;exact h hg.symm;omega)]
 rw[AL,AO]
 rfl
theorem Ay7{p:List Sp}: ∀c r',BR p=c::r'->CF (c.toNat:Int) false=false:=by
 intro c r' e
 cases p with
 |nil=>cases e
 |cons x p=>
  unfold BR at e
  rw[List.map_cons,List.flatten_cons]at e
  unfold Sp.CM at e
  split at e
  ·rw[<-(List.cons.inj e).1];decide
  ·rw[<-(List.cons.inj e).1];decide
theorem vM{x:Sp}(h:x.B3)(hp:x.part=true):(⟨true,[],x.n⟩:Sp)=x/\0<=x.n/\x.n<=1000000/\x.CM=91::(Lib.itoa x.n++[93]):=by
 obtain⟨h1,e,i⟩:=h.1 hp
 refine⟨by obtain⟨a,b,c⟩:=x;cases hp;cases h1;rfl,e,i,by unfold Sp.CM;rw[if_pos hp];simp⟩
theorem vN{x:Sp}(h:x.B3)(hp:x.part=false):MG x:=⟨hp,(h.2 hp).1,(h.2 hp).2⟩
theorem Ay8{x:Sp}{p:List Sp}{A:A0}(hx:x.B3)(w:x.part=true->A≠[]):EI (A++BR (x::p)) (len A)=(x,len x.CM)/\0<len x.CM:=by
 have e:BR (x::p)=x.CM++BR p:=by unfold BR;rw[List.map_cons,List.flatten_cons]
 cases hp:x.part with
 |false=>
  have k:=vN hx hp
  have i:=uU (s:=x.name) (r:=BR p) k.2.2 Ay7
  have y:=A8 (EV x.name)
  have b:0<len x.CM:=by rw[k.CM,AL];omega
  refine⟨?_,b⟩
  unfold EI
  rw[PZ,e,k.CM,i,if_pos (by show len (46::EV x.name)≠0;rw[AL];omega),k.eq]
 |true=>
  obtain⟨g1,g2,g3,g4⟩:=vM hx hp
  have l:=vL g2 g3 (BR p)
  have b:0<len x.CM:=by rw[g4,AL];have:=A8 (Lib.itoa x.n++[93]);omega
  have q:=GL (w hp)
  refine⟨?_,b⟩
  have i:EY (91::(Lib.itoa x.n++[93])++BR p)=(HM,0):=by
   have j:Lib.hasPrefix (91::(Lib.itoa x.n++[93])++BR p) [46]=false:=rfl
   unfold EY;rw[j,if_pos U]
  have hd:GU (A++BR (x::p)) (len A)=0:=by unfold GU;rw[if_neg (by rintro⟨h,_⟩;omega)]
  unfold EI
  rw[hd,Int.add_zero,PZ,e,g4,i,if_neg Ab,if_pos (.inl q),l,if_neg (by rw[<-g4];show ¬len x.CM=0;omega),Int.add_zero,g1]
theorem iA: ∀(p2 p1:List Sp) (A:A0) (f:Nat),(∀x∈p2,x.B3)->(A=[]-> ∀x∈p2.head?,x.part=false)->p2.length<=f->FI f (A++BR p2) p1 (len A)=(p1++p2,len (A++BR p2))
 |[],p1,A,f,_,_,_=>by
  rw[show BR []=[]from rfl,List.append_nil,List.append_nil]
  cases f with
  |zero=>rfl
  |succ f=>rw[FI,if_neg Aa]
 |x::p2,p1,A,f,h,l,n=>by
  rw[List.length_cons]at n
  obtain⟨f,rfl⟩: ∃g,f=g+1:=⟨f-1,Aa⟩
  have hx:=h x (.head _)
  have e:BR (x::p2)=x.CM++BR p2:=by unfold BR;rw[List.map_cons,List.flatten_cons]
  obtain⟨i,b⟩:=Ay8 (p:=p2) (A:=A) hx λ hp j=>by have:=l j x rfl;rw[hp]at this;cases this
  have s:=A8 (BR p2)
  have k:=iA p2 (p1++[x]) (A++x.CM) f (λ y q=>h y (.tail _ q)) (λ j=>by have:=(List.append_eq_nil_iff.1 j).2;rw[this]at b;exact absurd b Ab) Aa
  rw[List.append_assoc,<-e,AO]at k
  rw[FI,if_pos (by rw[e,AO,AO];omega),i,if_neg (by show ¬len x.CM=0;omega)]
  show FI f (A++BR (x::p2)) (p1++[x]) (len A+len x.CM)=_
  rw[k,List.append_assoc];rfl
theorem Ay9{p:List Sp}(hl:p.length<=20)(h: ∀x∈p,x.B3):BZ (DM p)=(p,0,0):=by
 cases p with
 |nil=>rfl
 |cons x p=>
  have hx:=h x (.head _)
  cases hp:x.part with
  |false=>
   have l:=vN hx hp
   have e:DM (x::p)=BR (x::p):=by
    unfold DM BR
    rw[if_neg (by rintro(h|h);cases h;have h:x.part=true:=h;rw[hp]at h;cases h)];rfl
   have b:DM (x::p)≠[46]:=by
    rw[e];unfold BR
    rw[List.map_cons,List.flatten_cons,l.CM]
    intro q
    have:=(List.cons.inj q).2
    exact uW l.2.2 (List.append_eq_nil_iff.1 this).1
   have hg:=iA (x::p) [] [] 20 h (λ _ y s=>by cases s;exact hp) hl
   rw[List.nil_append,List.nil_append,len_nil,<-e]at hg
   unfold BZ
   rw[if_neg b,hg,if_neg (by rintro(h|h);(have h:len (DM (x::p))<len (DM (x::p)):=h;omega);cases h)]
  |true=>
   obtain⟨g1,g2,g3,g4⟩:=vM hx hp
   have e:BR (x::p)=x.CM++BR p:=by unfold BR;rw[List.map_cons,List.flatten_cons]
   have es:DM (x::p)=46::(x.CM++BR p):=by
    rw[<-e];unfold DM BR
    rw[if_pos (.inr hp)];rfl
   have b:DM (x::p)≠[46]:=by
    rw[es,g4]
    intro q
    cases (List.cons.inj q).2
   have i:=vL g2 g3 (BR p)
   rw[<-g4,g1]at i
   have C:0<len x.CM:=by rw[g4,AL];have:=A8 (Lib.itoa x.n++[93]);omega
   have w:EY (DM (x::p))=(HM,0):=by
    rw[es,g4]
    have k:Lib.hasPrefix (46::(91::(Lib.itoa x.n++[93])++BR p)) [46]=true:=rfl
    have l:A5 (46::(91::(Lib.itoa x.n++[93])++BR p)) 1=91::(Lib.itoa x.n++[93])++BR p:=rfl
    have hw:CP (91::(Lib.itoa x.n++[93])++BR p) 0=0:=by
     refine Q0 (n:=0) (by have:=A8 (91::(Lib.itoa x.n++[93])++BR p);omega) (λ j h1 q=>by omega) (λ _=>?_) 0 (Int.le_refl _) (Int.le_refl _)
     rfl
    have hu:(B4 (91::(Lib.itoa x.n++[93])++BR p)).2.2≠0:=by
     have z:Lib.hasPrefix (91::(Lib.itoa x.n++[93])++BR p) [34]=false:=rfl
     unfold B4;rw[z,if_neg Ab];decide
    unfold EY
    rw[k,if_neg Ab,l,hw,if_neg Ab,if_pos (.inl hu)]
   have hd:GU (DM (x::p)) 0=1:=by unfold GU;rw[es,if_pos ⟨rfl,rfl⟩]
   have A:EI (DM (x::p)) 0=(x,len x.CM+1):=by
    unfold EI
    rw[OA,w,if_neg Ab,hd,if_pos (.inr Ab)]
    have B:A5 (DM (x::p)) (0+1)=x.CM++BR p:=by rw[es];rfl
    rw[B,i,if_neg (by show ¬len x.CM=0;omega)]
   have F:=A8 (BR p)
   rw[List.length_cons]at hl
   have hg:FI 20 (DM (x::p)) [] 0=(x::p,len (DM (x::p))):=by
    have D:=iA p [x] (46::x.CM) 19 (λ y s=>h y (.tail _ s)) (λ E=>by cases E) Aa
    have e2:(46::x.CM)++BR p=DM (x::p):=by rw[es];rfl
    rw[e2,AL]at D
    rw[FI,if_pos (by rw[es,AL,AO];omega),A,if_neg (by show ¬len x.CM+1=0;omega)]
    show FI 19 (DM (x::p)) [x] (0+(len x.CM+1))=_
    rw[Int.zero_add,D];rfl
   unfold BZ
   rw[if_neg b,hg,if_neg (by rintro(h|h);(have h:len (DM (x::p))<len (DM (x::p)):=h;omega);cases h)]
theorem Az0{s:A0}(h:OD s=true):(BZ s).1=(D0 s).1:=by
 obtain⟨p,h1,b,e,i⟩:=pA h
 rw[i,e,Ay9 h1 b]
theorem ZO: ∀(p:Tf) {i:Int} {t:Tf} {h:Bool} {e y:Int},DN p i t h= .er e y->y≠0
 | .mk x [],i,t,h,e,y,he=>by
  unfold DN at he
  split at he
  ·cases he
  ·cases he;decide
 | .mk x [a],i,t,h,e,y,he=>ZO a (by unfold DN at he;exact he)
 | .mk x (a::b::_),i,t,h,e,y,he=>by
  unfold DN at he
  split at he
  ·cases he;decide
  ·cases hr:DN a (i+1) t h with
   |er e2 k=>rw[hr]at he;cases he;exact ZO a hr
   |ok z j=>rw[hr]at he;exact ZO b he
end Go.Eng
namespace Go.Proofs.YtnoegalemkbbbaaGreatDoor
open Go.Proofs.Tryz
open Go.Eng Go.RowKit
abbrev vO(w0:World)(M0:Mem)(M:Mem)(Rs:List HO)(r:Fl×Int×Int):Ending->World->Prop:=BF w0 M0 M Rs (λ g:AI=>.agg #[g.v,i64 r.2.1,i64 r.2.2]) (λ _=>True) (λ g=>[(0,A6 g.v r.1)]) (λ _=>[])
theorem Az1: ∀(n:Nat) (p:Tf) {w0 wv:World} {M0 M:Mem} {Rs:List HO} (i:Int) (v u:Value) (t:Tf) (h:Bool),p.size<=n->p.B3->F9 p.t=true->AU p->St w0 M0 wv M Rs->(A6 v p.flat).ok M->(A6 u t.flat).ok M->B8 t=true->AU t->(t.size:Int)+p.size<=1048576->0<=i->i+p.size<=1099511627776->
    Calls prog 36 [v,i64 i,u,.bool h].toArray wv (vO w0 M0 M Rs (MF (DN p i t h))):=by
 intro n
 induction n with
 |zero=>intro p _ _ _ _ _ i v u t h hn;have:=p.size_pos;omega
 |succ n ih=>
 intro p w0 wv M0 M Rs i v u t h hn hg hc T hS hlp hlt V G hsz hi0 hi1
 have H:=p.size_eq
 have hpz:=DS p
 have htz:=DS t
 have htp:=t.size_pos
 have K:(at' p.flat 0).op=p.t.op:=by rw[p.CU];rfl
 have hco:=tG hc
 have L:=gQ hg Aa (.inl hc)
 have F: ∀x∈p.ps,AU x:=T.kids
 refine AH (Hr:=Rs) AF func36 U ntmps36 [(0,A6 v p.flat),(1,A6 u t.flat)] [] [.sl 0 v,I i,.sl 1 u,.v (.bool h)] U hS (AD hlp (AD hlt A3)) (λ B z=>B9 8 U zeroValue73 U λ b8=>FM (λ g:Value×List AI=>.sl 3 g.1) [3] U U call56 U (λ w M l=>Au7 p v w M l.st.sat (l.sl 0 U) Aa) λ N X=>B9 2 U zeroValue48 U λ b9=>?_) U
 refine A1 U (λ J=>?_) (λ J=>?_)<;>simp only[zb]at J<;>rw[K]at J
 ·obtain⟨a,e⟩:=hg.one (.inr (.inr (.inr J)))
  rw[e]at H
  rw[AB,AB]at H
  obtain⟨k1,k2,k3⟩:=L a (by rw[e];simp)
  have C:DL p=[a.flat]:=by rw[ND];unfold AQ;rw[e];show [(a.named []).flat]=_;rw[k3]
  rw[tI e]at z
  have hgl2:len N.2=1:=by rw[X,e];rfl
  exact AP [] (λ g:AI=>.ag [.sl 4 g.v,I (MF (DN a (i+1) t !h)).2.1,I (MF (DN a (i+1) t !h)).2.2]) [4] (λ _=>[]) (Fg:=λ g=>[(0,A6 g.v (MF (DN a (i+1) t !h)).1)]) (pu:=λ _=>True) U U call36 U U (λ w M hS hF=>ih a (i+1) (at' N.2 0).v u t (!h) Aa k1 k2 (F a (by rw[e];simp)) hS (by have:=EN (hF.get (k:=3) U) (k:=0) Aa Aa;rw[C]at this;exact this) (hF.get (k:=1) U) V G Aa Aa Aa) λ g _=>A2 z U U U λ w M' l=>⟨g,M',rfl,trivial,l.le,l.B6 [] U,AD (l.f.get (k:=4) U) A3⟩
 refine A1 U (λ D=>?_) (λ D=>?_)<;>simp only[zb]at D<;>rw[K]at D
 ·have e:p.ps=[]:=by
   have:=(VK hg.plain D).1
   have h2:len p.ps=0:=this
   exact List.eq_nil_of_length_eq_zero (by unfold len at h2;omega)
  have O:=(VK hg.plain D).2.2.1
  have O:0<=p.t.n/\p.t.n<=5:=O
  have hpb:OD p.t.s=true:=(VK hg.plain D).2.1
  have P:(at' p.flat 0).s=p.t.s:=by rw[p.CU];rfl
  have Q:(at' p.flat 0).n=p.t.n:=by rw[p.CU];rfl
  have hc0:(at' p.flat 0).c=p.t.c:=by rw[p.CU];rfl
  have hrs:=T.root
  rw[tH e,Az0 hpb,<-P,<-Q,<-hc0]at z
  obtain⟨x,hx⟩: ∃x,x=at' p.flat 0:=⟨_,rfl⟩
  rw[<-hx]at z P Q hc0
  have hrl:=fS x.s
  refine FM (λ u:Value=>.tu [.sl 6 u,I (D0 (at' p.flat 0).s).2.1,I (D0 (at' p.flat 0).s).2.2]) [6] U U call82 U (λ w M l=>eZ (at' p.flat 0).s l.st.sat (by rw[<-hx,P];omega)) λ v6 _=>B9 5 U zeroValue113 U λ b11=>CQ 0 (λ s=>s=⟨[(6,kn v6 3 (D0 (at' p.flat 0).s).1 Sp.cells),(0,A6 v p.flat),(1,A6 u t.flat)],[(5,.box b11 (I (if h=true then(at' p.flat 0).n else IA (at' p.flat 0).n)::E8 (at' p.flat 0).c.cells) 113),(2,.box b9 (E8 (at' p.flat 0).cells) 48),(8,.box b8 [.v (.slice none 0 0),I 0,I 0] 73)],[Z 1 (I i),Z 2 (.sl 1 u),Z 8 (.bx 8 b8 0),Z 11 (.sl 6 v6),Z 14 (.bx 5 b11 0)]⟩) U U (λ A=>?_) (λ A=>?_) ?_
  ·have hh:h=false:=by simpa using A
   subst hh
   exact AP [] (λ _:Unit=>I (IA (at' p.flat 0).n)) [] (λ _=>[]) (Fg:=λ _=>[]) (pu:=λ _=>True) U U call83 U U (λ w M hS hF=>Ah8 _ hS (by rw[<-hx,Q];exact O)) λ _ _=>AT _ U U U
  ·have hh:h=true:=by simpa using A
   subst hh
   exact AT _ U U U
  rintro s rfl
  obtain⟨R,hnn⟩: ∃R,R=if h=true then x.n else IA x.n:=⟨_,rfl⟩
  rw[<-hx,<-hnn]
  rw[<-hnn]at z
  obtain⟨k,hk⟩: ∃k,k=(B1 (D0 x.s).1 t).1:=⟨_,rfl⟩
  cases hl:(B1 (D0 x.s).1 t).2 with
  |false=>
   rw[hl,if_neg Ab]at z
   refine AP [] (λ _:Unit=>.tu [.v (.slice none 0 0),I 6]) [] (λ _=>[]) (Fg:=λ _=>[]) (pu:=λ _=>True) U U call84 U U (λ w M hS hF=>Ay2 (a:= { AV 9 with n:=R,c:=x.c}) hS (hF.get (k:=1) U) (hF.get (k:=6) U) Aa Aa hl) λ _ _=>?_
   refine A1 U (λ q=>?_) (λ q=>?_)
   ·refine AP [] (λ _:Unit=>.ag [.v (.slice none 0 0),I i,I 5]) [] (λ _=>[]) (Fg:=λ _=>[]) (pu:=λ _=>True) U U call85 U U (λ w M hS hF=>vI i 5 hS) λ _ _=>?_
    exact A2 z U U U λ w M' l=>⟨⟨none,0,0⟩,M',rfl,trivial,l.le,l.B6 [] U,AD ⟨Sl.nil M' 11,Tm.AS,trivial⟩ A3⟩
   ·exact absurd q (by simp)
  |true=>
   have hlq:B1 (D0 x.s).1 t=(k,true):=by rw[hk,<-hl]
   obtain⟨r1,r2,r3⟩:=gP (a:= { AV 9 with n:=R,c:=x.c}) (D0 x.s).1 t k hlq V
   rw[hl,if_pos U]at z
   refine AP [] (λ g:Value=>.tu [.sl 7 g,I 0]) [] (λ g=>[(7,ED g (FD (IT R x.c) (D0 x.s).1 t).flat)]) (Fg:=λ _=>[]) (pu:=λ _=>True) (Hg:=λ g=>[HL g (FD (IT R x.c) (D0 x.s).1 t).flat]) U U call84 U U (hu:=λ _=>rfl) (hH:=λ _=>rfl) (λ w M hS hF=>by rw[<-r1];exact Ay3 (a:= { AV 9 with n:=R,c:=x.c}) hS (hF.get (k:=1) U) (hF.get (k:=6) U) Aa Aa hlq ⟨r2,r3⟩) λ g _=>?_
   refine A1 U (λ q=>?_) (λ q=>?_)
   ·exact absurd q (by simp)
   refine C6 7 U ?_
   refine RG 7 U λ a7 c7 e7=>?_
   subst e7
   exact A2 z U U U λ w M' l=>⟨⟨a7,_,c7⟩,M',rfl,trivial,l.le,l.B6 [] U,AD (l.f.get (k:=7) U) A3⟩
 ·obtain⟨a,b,e⟩:=hg.two (.inr Aa)
  rw[e]at H
  rw[AB,AB,AB]at H
  obtain⟨a1,a2,a3⟩:=L a (by rw[e];simp)
  obtain⟨b1,b2,b3⟩:=L b (by rw[e];simp)
  have C:DL p=[a.flat,b.flat]:=by rw[ND];unfold AQ;rw[e];show [(a.named []).flat,(b.named []).flat]=_;rw[a3,b3]
  have hgl2:len N.2=2:=by rw[X,e];rfl
  have hz1:=DS a
  rw[tJ e]at z
  refine A1 U (λ A=>?_) (λ A=>?_)<;>rw[K]at A
  ·have S:(p.t.op==17)=h:=by simpa using A
   rw[if_neg (λ hne=>hne S)]at z
   cases hr:DN a (i+1) t h with
   |er e2 y2=>
    rw[hr]at z
    have hy2:=ZO a hr
    refine AP [] (λ g:AI=>.ag [.sl 4 g.v,I e2,I y2]) [4] (λ _=>[]) (Fg:=λ g=>[(0,A6 g.v [])]) (pu:=λ _=>True) U U call36 U U (hu:=λ _=>rfl) (hH:=λ _=>rfl) (λ w M hS hF=>by
     have:=ih a (i+1) (at' N.2 0).v u t h Aa a1 a2 (F a (by rw[e];simp)) hS (by have:=EN (hF.get (k:=3) U) (k:=0) Aa Aa;rw[C]at this;exact this) (hF.get (k:=1) U) V G Aa Aa Aa
     rw[hr]at this;exact this) λ g _=>?_
    refine B9 10 U zeroValue73 U λ b10=>?_
    refine A1 U (λ q=>?_) (λ q=>?_)
    ·exact A2 z U U U λ w M' l=>⟨g,M',rfl,trivial,l.le,l.B6 [] U,AD (l.f.get (k:=4) U) A3⟩
    ·simp only[zb]at q;exact absurd q hy2
   |ok y j=>
    rw[hr]at z
    obtain⟨y1,y2⟩:=OR a hr (F a (by rw[e];simp)) V G
    have y3:=y1.size
    refine AP [] (λ g:AI=>.ag [.sl 4 g.v,I 0,I 0]) [4] (λ _=>[]) (Fg:=λ g=>[(0,A6 g.v y.flat)]) (pu:=λ _=>True) U U call36 U U (hu:=λ _=>rfl) (hH:=λ _=>rfl) (λ w M hS hF=>by
     have:=ih a (i+1) (at' N.2 0).v u t h Aa a1 a2 (F a (by rw[e];simp)) hS (by have:=EN (hF.get (k:=3) U) (k:=0) Aa Aa;rw[C]at this;exact this) (hF.get (k:=1) U) V G Aa Aa Aa
     rw[hr]at this;exact this) λ g _=>?_
    refine B9 10 U zeroValue73 U λ b10=>?_
    refine A1 U (λ q=>?_) (λ q=>?_)
    ·cases q
    refine D7 [8,13,14] 4 (λ _ _ _ _ _ h=>h) U BK U ?_
    refine AK 8 U U U ?_
    refine AR (W:=.t) (I (len a.flat)) U U (λ w M l=>by have:=EN (l.f.get (k:=3) U) (k:=0) Aa Aa;rw[C]at this;exact PV.MJ this.sl (A7 (v:=.v (at' N.2 0).v) (E:=[]) U) ⟨_,underlying23⟩) ?_
    refine AE U ?_
    refine AK 13 U U U ?_
    obtain⟨r,hrr⟩: ∃r,r=MF (DN b (i+1+a.size) y h):=⟨_,rfl⟩
    have hB2:Eng.Ends prog Tryz.f36 (vO w0 M0 M Rs r) B:=by rw[hrr];exact z
    refine AP [] (λ g:AI=>.ag [.sl 5 g.v,I r.2.1,I r.2.2]) [5] (λ _=>[]) (Fg:=λ g=>[(0,A6 g.v r.1)]) (pu:=λ _=>True) U U call36 U U (hu:=λ _=>rfl) (hH:=λ _=>rfl) (λ w M hS hF=>by
     have:=ih b (i+1+a.size) (at' N.2 1).v g.v y h Aa b1 b2 (F b (by rw[e];simp)) hS (by have:=EN (hF.get (k:=3) U) (k:=1) Aa Aa;rw[C]at this;exact this) (hF.get (k:=4) U) y1.ar y1.sh Aa Aa Aa
     rw[<-hrr,<-hz1]at this
     exact this) λ g2 _=>?_
    refine AE U ?_
    refine AK 14 U U U ?_
    refine AE U ?_
    refine BL U U U ?_
    exact A2 hB2 U U U λ w M' l=>⟨g2,M',rfl,trivial,l.le,l.B6 [] U,AD (l.f.get (k:=5) U) A3⟩
  ·have S: ¬(p.t.op==17)=h:=by simpa using A
   rw[if_pos (show decide (p.t.op=17)≠h from λ he=>S he)]at z
   exact AP [] (λ _:Unit=>.ag [.v (.slice none 0 0),I i,I 4]) [] (λ _=>[]) (Fg:=λ _=>[]) (pu:=λ _=>True) U U call85 U U (λ w M hS hF=>vI i 4 hS) λ _ _=>A2 z U U U λ w M' l=>⟨⟨none,0,0⟩,M',rfl,trivial,l.le,l.B6 [] U,AD ⟨Sl.nil M' 11,Tm.AS,trivial⟩ A3⟩
abbrev FlR(w:World)(M:Mem)(x:Fl):Ending->World->Prop:=MP w M (λ h:AI=>h.v) (λ _=>True) λ h=>[(0,A6 h.v x)]
theorem Az3(p t:Tf)(v u:Value)(w:World)(M:Mem)(j:Sat w M)(l:(A6 v p.flat).ok M)(hu:(A6 u t.flat).ok M)(hg:p.B3)(n:F9 p.t=true)(b:AU p)(q:B8 t=true)(hs:AU t)(s:(t.size:Int)+p.size<=1000000):
  Calls prog 13 [v,u].toArray w (gV w M (KE p t)):=by
 obtain⟨r,e⟩: ∃r,r=KE p t:=⟨_,rfl⟩
 rw[<-e]
 exact AH (Hr:=[]) AF func13 U ntmps13 [(0,A6 v p.flat),(1,A6 u t.flat)] [] [.sl 0 v,.sl 1 u] U (Aj j) (AD l (AD hu A3)) (λ B y=>AP [] (λ g:AI=>.ag [.sl 4 g.v,I r.2.1,I r.2.2]) [4] (λ _=>[]) (Fg:=λ g=>[(0,A6 g.v r.1)]) (pu:=λ _=>True) U U call36 U U (hu:=λ _=>rfl) (hH:=λ _=>rfl) (λ w M hS hF=>by rw[e];exact Az1 p.size p 0 v u t true (Nat.le_refl _) hg n b hS (hF.get (k:=0) U) (hF.get (k:=1) U) q hs Aa Aa Aa) λ g _=>B9 10 U zeroValue73 U λ z=>D7 [6,7,8] 4 (λ _ _ _ _ _ h=>h) U BK U <|AK 6 U U U <|AE U <|AK 7 U U U <|AE U <|AK 8 U U U <|AE U <|BL U U U <|A2 y U U U λ w M' i=>⟨g,M',rfl,trivial,(i.B6 [] U).done,AD (i.f.get (k:=4) U) A3⟩) U
theorem Az4(l:Fl):(({ AV 7 with many:=len [l]}:Tm)::(G5 [] [l]).flatten)= { AV 7 with many:=1}::l:=by rw[fM];show _::(l++[])=_;rw[List.append_nil];rfl
theorem Az5(l:Fl)(v:AI)(w:World)(M:Mem)(e:Sat w M)(i:(A6 v.v l).ok M)(q:len l<=100000000000):
   Calls prog 10 [v.v].toArray w (FlR w M ({ AV 7 with many:=1}::l)):=by
 refine AH (Hr:=[]) AF func10 U ntmps10 [(0,A6 v.v l)] [] [.sl 0 v.v] U (Aj e) (AD i A3) (λ B j=>BH 5 [v] BX 1 23 E5 U U Ah U λ v5=>?_) U
 refine AP [] (λ h:AI=>.sl 6 h.v) [] (λ h=>[(6,XW h.v ({ AV 7 with many:=1}::l))]) U U call26 U U (hu:=λ _=>rfl) (hH:=λ _=>rfl) (λ w M hS hF=>by
  have:=Ay5 (AV 7) (.slice none 0 0) [] v5 [v] [l] hS (Sl.nil M 1) ⟨(hF.get (k:=5) U).sl,E5,(hF.get (k:=0) U).sl,trivial⟩ (.inl U) (λ h=>absurd U h) (by simp only[List.flatten_cons,List.flatten_nil,AO,len_nil];omega) (by simp only[AL,len_nil];omega)
  rw[Az4]at this
  exact this) λ n _=>?_
 exact C6 6 U <|A2 j U U U λ w M' b=>⟨n,M',rfl,trivial,(b.B6 [] U).done,AD (b.f.get (k:=6) U) A3⟩
theorem Az6(f t:Fl)(v s:Value)(w:World)(M:Mem)(hM:Sat w M)(hgl:Gl w)(hv:(A6 v f).ok M)(hs:(A6 s t).ok M)(hb:len f<=100000000000):
    Calls prog 3 [v,s].toArray w λ e w'=>e= .returned (.bool true)/\Ext w w':=by
 obtain⟨vs,rfl⟩:=A6.shape hv
 obtain⟨ss,rfl⟩:=A6.shape hs
 refine AH (Hr:=[]) AF func3 U ntmps3 [(0,A6 vs.v f),(1,A6 ss.v t)] [] [.sl 0 vs.v,.sl 1 ss.v] U (Aj hM) (AD hv (AD hs A3)) (λ B hB=>?_) U
 refine FM (λ h:AI=>.sl 2 h.v) [2] U U call10 U (λ w M hX=>Az5 f vs w M hX.st.sat (hX.f.get (k:=0) U) hb) λ h2 _=>?_
 refine FM (γ:=Bool) (pu:=λ b=>b=true->(∃x,VU ({ AV 7 with many:=1}::f) x)/\ ∃y,ZN t y) (Fg:=λ _=>[]) (λ b:Bool=>.v (.bool b)) [] U U call9 U (λ w M hX=>(Ay0 _ t h2.v ss.v w M hX.st.sat (hX.f.get (k:=2) U) (hX.f.get (k:=1) U)).mono λ e w' he=>by
   obtain⟨⟨b,e1,e2⟩,e3⟩:=he
   exact⟨b,M,e1,e2,Grow.T9 hX.st.sat e3,A3⟩) λ gb hbr=>?_
 refine A1 U (λ hb1=>?_) (λ hb1=>?_)
 ·refine AJ U call11 U U (λ _ w M hX=>vD w (hgl.low hX.st.low)) U ?_
  exact A2 hB U U U λ w M hX=>⟨rfl,hX.st.low⟩
 have hgt:gb=true:=by simpa using hb1
 obtain⟨⟨W,hW⟩,t,ht⟩:=hbr hgt
 obtain rfl:=ht.eq
 obtain⟨p,hp1,hp2,hp3,hp4,hp5⟩: ∃p:Tf,f=p.flat/\p.B3/\F9 p.t=true/\AU p/\p.size<=40:=by
  have he:=hW.eq
  have h7:W.t.op=7:=by
   have:=congrArg (λ l=>(at' l 0).op) he
   rw[show(at' W.flat 0).op=W.t.op by rw[W.CU];rfl]at this
   exact this.symm
  obtain⟨p,e⟩:=hW.B3.one (.inr (.inr (.inl h7)))
  have hk:=hW.B3.SF [] p [] (by rw[e];rfl)
  have hz:=W.size_eq
  rw[e,AB,AB]at hz
  have hws:=hW.size
  refine⟨p,?_,hW.B3.kids p (by rw[e];simp),by rw[hk.c,h7];simp,hW.sh.kids p (by rw[e];simp),Aa⟩
  rw[Tf.G1 W,e]at he
  have:=(List.cons.inj he).2
  rw[this];show p.flat++[]=_;simp
 subst hp1
 have hts:=ht.size
 obtain⟨r,hr⟩: ∃r,r=KE p t:=⟨_,rfl⟩
 refine FM (λ h:AI=>.tu [.sl 3 h.v,I r.2.1,I r.2.2]) [3] (Fg:=λ h=>[(0,A6 h.v r.1)]) (pu:=λ _=>True) U U call12 U (hu:=λ _=>rfl) (λ w M hX=>by rw[hr];exact uA p t vs.v ss.v w M hX.st.sat (hgl.low hX.st.low) (hX.f.get (k:=0) U) (hX.f.get (k:=1) U) hp2 hp3 hp4 ht.ar ht.sh Aa) λ h3 _=>?_
 refine FM (λ h:AI=>.tu [.sl 4 h.v,I r.2.1,I r.2.2]) [4] (Fg:=λ h=>[(0,A6 h.v r.1)]) (pu:=λ _=>True) U U call13 U (hu:=λ _=>rfl) (λ w M hX=>by rw[hr];exact Az3 p t vs.v ss.v w M hX.st.sat (hX.f.get (k:=0) U) (hX.f.get (k:=1) U) hp2 hp3 hp4 ht.ar ht.sh Aa) λ h4 _=>?_
 refine AJ U call11 U U (λ _ w M hX=>vD w (hgl.low hX.st.low)) U ?_
 refine GB (.v (.bool true)) U U (λ hn=>?_) (λ hn=>absurd hn Ab)
 refine AJ U call14 U U (hE2:=N5 hn λ c hc=>by simpa using hc) (λ _ w M hX=>Ae8 (x:=r.1) (y:=r.1) U M h3.v h4.v w hX.st.sat (hX.sl 3 U) (hX.sl 4 U)) U ?_
 exact A2 hB U U U λ w M hX=>⟨by show Ending.returned (.bool _)=_;congr 2;simp,hX.st.low⟩
end Go.Proofs.YtnoegalemkbbbaaGreatDoor
namespace Go.Proofs.YtnoegalemkbbbaaGreatDoor.checkSelects
open Go.Proofs.Tryz
open Go.ChangeShapes Go.WideShapes Go.ChangeAt Go.RowKit Go.Eng
noncomputable abbrev jP:=prog
noncomputable abbrev jf:FuncId:=3
noncomputable abbrev HY:=Tryz.f3
noncomputable abbrev js:=Rows.checkSelectsSpec
noncomputable abbrev jc:=Rows.checkSelectsUptoRow
theorem jk0:jc.wf (OpenSpec.ofChange js)=true:=by kernel_rfl
theorem jk1:laidOutB jP=true:=by kernel_rfl
theorem jk2:mapsRowed jP=true:=by kernel_rfl
theorem jk3:HY.params.all (jP.readableRec ·)=true:=by kernel_rfl
theorem jk4:namedTie jP jc.named js.vars=true:=by kernel_rfl
theorem jk5:(jc.stops==[])=true:=by kernel_rfl
theorem jk6:(jP.stops==[])=true:=by kernel_rfl
theorem jk7:(jc.knobs==[])=true:=by kernel_rfl
theorem jk8:(jP.stopKnobs==[])=true:=by kernel_rfl
theorem jk9:(jc.inPlace==jP.inPlace jf)=true:=by kernel_rfl
theorem BA7:(jc.unfollowed==jP.unfollowed jf)=true:=by kernel_rfl
theorem BA8:(jc.recurses==jP.recurses jf)=true:=by kernel_rfl
theorem BA9:(jc.named==jP.varsNamed jf)=true:=by kernel_rfl
theorem BB0:(jc.maps==(HY.params.toList++js.plain.varTypes jP).any (jP.mapsRec ·))=true:=by kernel_rfl
theorem BB1:(jc.ifaces==(HY.params.toList++js.plain.varTypes jP).any (jP.ifacesRec ·))=true:=by kernel_rfl
theorem BB2:(jc.mapsOut==jP.mapsAmong HY.resultTypes.toList)=true:=by kernel_rfl
theorem BB3:(jc.loops==(HY.params.toList++js.plain.varTypes jP).any (jP.loopsFrom ·))=true:=by kernel_rfl
theorem BB4:(jc.wideKeys==(HY.params.toList++js.plain.varTypes jP++HY.resultTypes.toList).any (jP.wideKeysFrom ·))=true:=by kernel_rfl
theorem BB5:js.vars.all (jP.varReadable ·)=true:=by kernel_rfl
theorem BB6:HY.resultTypes.all (λ t=>jP.readableRec t&&decide (t<jP.types.size))=true:=by kernel_rfl
theorem BB7:(jc.ifacesOut==HY.resultTypes.toList.any (jP.ifacesRec ·))=true:=by kernel_rfl
theorem BB8:(jc.loopsOut==HY.resultTypes.toList.any (jP.loopsFrom ·))=true:=by kernel_rfl
theorem BB9:(jc.plainKeys==jP.plainKeys)=true:=by kernel_rfl
theorem BC0:jc.shortTexts.isNone=true:=by kernel_rfl
theorem BC1:jP.stopsHeard=true:=by kernel_rfl
theorem BC2:jP.mayEnter=true:=by kernel_rfl
theorem BC3:(jc.lifted==jP.liftsFinal)=true:=by kernel_rfl
theorem BC4:(jP.make==some jc.make)=true:=by kernel_rfl
theorem BC5:(jc.kinds==(if jc.domain.isEmpty then []else HY.params.toList.map λ t=>match jP.underlying t with|some (.int k)=>some k|_=>none))=true:=by kernel_rfl
theorem BC6:(jc.pinned==jc.pinnedBy)=true:=by kernel_rfl
theorem BC7:(jc.veiled==(HY.params.toList++js.plain.varTypes jP++HY.resultTypes.toList).any (jP.veiledRec ·))=true:=by kernel_rfl
theorem BC8:jc.veiledFits jP HY.params.toList (HY.params.toList++js.plain.varTypes jP++HY.resultTypes.toList)=true:=by kernel_rfl
theorem DT{a b:Bool}(h:a=true)(e:b=true):(a&&b)=true:=by rw[h,e];rfl
theorem iB:joinedFacts jP jf HY js jc=true:=(DT (DT (DT (DT (DT (DT (DT (DT (DT (DT (DT (DT (DT (DT (DT (DT (DT (DT (DT (DT (DT (DT (DT (DT (DT (DT (DT (DT (DT (DT (DT jk0 jk1) jk2) jk3) jk4) jk5) jk6) jk7) jk8) jk9) BA7) BA8) BA9) BB0) BB1) BB2) BB3) BB4) BB5) BB6) BB7) BB8) BB9) BC0) BC1) BC2) BC3) BC4) BC5) BC6) BC7) BC8)
end Go.Proofs.YtnoegalemkbbbaaGreatDoor.checkSelects
