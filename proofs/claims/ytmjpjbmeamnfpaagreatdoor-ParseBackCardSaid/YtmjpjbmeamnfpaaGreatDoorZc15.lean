/-
  Parts Toks Mark L1 L2 L3, put together and made short by wip/py/merge.py (mini.py).
-/
import Derived.Test.YtmjpjbmeamnfpaaGreatDoorZc14
import Derived.Test.YtmjpjbmeamnfpaaGreatDoorZc4
import Derived.Laws.BitsLemmas
import Derived.Test.YtmjpjbmeamnfpaaGreatDoorZc3
import Derived.Test.YtmjpjbmeamnfpaaGreatDoorProg
import Derived.Test.YtmjpjbmeamnfpaaGreatDoorZc0
set_option linter.unusedVariables false
set_option linter.unusedSimpArgs false
namespace Go.Eng
open Go.RowKit
theorem j6{t:A1}{i:Int}(h0:0<=i):K9 t i=true↔ ¬t=[]/\ ∀j:Int,i<=j->j<len t->C0 (A3 t j) (j==0)=true:=by
 by_cases hlt:i<len t
 ·have hc:(EB (A3 t i)||i != 0&&BM (A3 t i))=C0 (A3 t i) (i==0):=rfl
  by_cases hw:C0 (A3 t i) (i==0)=true
  ·rw[<-dW t i h0 hlt (by rw[hc];exact hw),j6 (i:=i+1) (by omega)]
   refine and_congr_right λ _=>⟨λ h j h1 h2=>?_,λ h j h1 h2=>h j (by omega) h2⟩
   by_cases e:j=i
   ·subst e;exact hw
   ·exact h j (by omega) h2
  ·rw[dX t i h0 hlt (by rw[hc];exact hw)]
   exact⟨λ h=>(by cases h),λ h=>absurd (h.2 i (Int.le_refl _) hlt) hw⟩
 ·rw[dY t i hlt,bne_iff_ne]
  exact Iff.intro (λ h=>And.intro h (λ j h1 h2=>by omega)) (λ h=>h.1)
termination_by (len t-i).toNat
theorem QN{t:A1}:D7 t=true↔ ¬t=[]/\ ∀j:Int,0<=j->j<len t->C0 (A3 t j) (j==0)=true:=j6 (Int.le_refl 0)
def QO(s:A1)(i k:Int):Prop:= ∀j:Int,0<=j->j<k-i->C0 (A3 s (i+j)) (j==0)=true
theorem QO.start (s:A1)(i:Int):QO s i i:=λ j h0 h1=>by omega
theorem wF{s:A1}{i k:Int}(h0:0<=i)(h1:i<=k)(h2:k<len s)(ha:QO s i k):D7 (Eng.sub s i (k+1))=C0 (A3 s k) (k-i==0):=by
 have hl:=EV (s:=s) (i:=i) (j:=k+1) h0 (by omega) (by omega)
 rw[Bool.eq_iff_iff,QN]
 constructor
 ·rintro⟨_,h⟩
  have:=h (k-i) (by omega) (by omega)
  rw[N5 h0 (by omega) (by omega) (by omega),show i+(k-i)=k from by omega]at this
  exact this
 ·intro h
  refine⟨λ e=>by rw[e,len_nil]at hl;omega,λ j h3 h4=>?_⟩
  rw[N5 h0 h3 (by omega) (by omega)]
  by_cases e:j=k-i
  ·subst e;rw[show i+(k-i)=k from by omega];exact h
  ·exact ha j h3 (by omega)
theorem QO.step {s:A1}{i k:Int}(h0:0<=i)(h1:i<=k)(h2:k<len s)(ha:QO s i k)(h:D7 (Eng.sub s i (k+1))=true):QO s i (k+1):=by
 rw[wF h0 h1 h2 ha]at h
 intro j h3 h4
 by_cases e:j=k-i
 ·subst e;rw[show i+(k-i)=k from by omega];exact h
 ·exact ha j h3 (by omega)
theorem aC{α:Type}(s:List α)(i j:Int)(h0:0<=i)(h1:0<=j):Eng.sub (A4 s i) 0 j=Eng.sub s i (i+j):=by
 unfold Eng.sub A4
 simp only[Int.toNat_zero,List.drop_zero,Nat.sub_zero]
 congr 1;omega
theorem wG: ∀n:Fin 256,HJ (UInt8.ofNat n.val)=decide ((48<=n.val/\n.val<=57)\/n.val=43\/n.val=45\/n.val=46\/n.val=101\/n.val=69):=by decide+kernel
theorem VS(b:UInt8):HJ b=true↔(48<=b.toNat/\b.toNat<=57)\/b.toNat=43\/b.toNat=45\/b.toNat=46\/b.toNat=101\/b.toNat=69:=by
 have:=wG ⟨b.toNat,b.toNat_lt⟩
 simp only[UInt8.ofNat_toNat]at this
 rw[this,decide_eq_true_eq]
theorem j7{s:A1}{i:Int}{t:A1}(h0:0<=i)(h1:i<=len s):UM s i t=Lib.hasPrefix (A4 s i) t:=by
 have hl:=DV s i h0 h1
 have ht:=AA t
 rw[<-Lib.hasPrefix_of_take]
 unfold UM
 have e:Eng.sub s i (i+len t)=(A4 s i).take t.length:=by
  unfold Eng.sub A4;congr 1;unfold len;omega
 rw[e]
 congr 1
 rw[Bool.eq_iff_iff,decide_eq_true_eq,decide_eq_true_eq]
 unfold len at*;omega
def JY(s:A1)(i k:Int):Prop:=(Eng.sub AI 0 k).find? (λ m=>Lib.hasPrefix (A4 s i) m)=none
theorem JY.start (s:A1)(i:Int):JY s i 0:=rfl
theorem JY.step {s:A1}{i k:Int}(h:JY s i k)(h0:0<=i)(h1:i<=len s)(hk0:0<=k)(hk1:k<17)(h2:UM s i (A2 AI k)=false):JY s i (k+1):=by
 unfold JY at*
 rw[sub_succ AI k hk0 hk1,List.find?_append,h]
 rw[j7 h0 h1]at h2
 rw[Option.none_or,List.find?_cons,show AI.getD k.toNat default=A2 AI k from rfl,h2];rfl
theorem JY.found {s:A1}{i k:Int}(h:JY s i k)(h0:0<=i)(h1:i<=len s)(hk0:0<=k)(hk1:k<17)(h2:UM s i (A2 AI k)=true):BX (A4 s i)=A2 AI k:=by
 unfold JY at h
 rw[j7 h0 h1]at h2
 have e:AI=Eng.sub AI 0 k++A4 AI k:=by
  have:=O0 AI 0 k (Int.le_refl _) hk0
  exact this
 have hk:k.toNat<AI.length:=by show k.toNat<17;omega
 have e2:A4 AI k=A2 AI k::A4 AI (k+1):=by
  unfold A4 A2
  rw[show(k+1).toNat=k.toNat+1 from by omega,List.drop_eq_getElem_cons hk]
  simp[hk]
 have e3:AI.find? (λ m=>Lib.hasPrefix (A4 s i) m)=some (A2 AI k):=by
  conv=>lhs;rw[e]
  rw[List.find?_append,h,e2,List.find?_cons,h2];rfl
 unfold BX;rw[e3];rfl
theorem JY.VT {s:A1}{i k:Int}(h:JY s i k)(hk:17<=k):BX (A4 s i)=[]:=by
 unfold JY at h
 rw[IP AI k (by show(17:Int)<=k;omega)]at h
 unfold BX;rw[h];rfl
theorem wH{k:Int}(hk0:0<=k)(hk1:k<17):1<=len (A2 AI k)/\len (A2 AI k)<=2:=by
 have:k=0\/k=1\/k=2\/k=3\/k=4\/k=5\/k=6\/k=7\/k=8\/k=9\/k=10\/k=11\/k=12\/k=13\/k=14\/k=15\/k=16:=by omega
 rcases this with rfl|rfl|rfl|rfl|rfl|rfl|rfl|rfl|rfl|rfl|rfl|rfl|rfl|rfl|rfl|rfl|rfl<;>decide
section tok
variable {s:A1} {i:Int}
end tok
theorem wI{s:A1}(h1:0<len s)(h:A3 s 0=45\/BM (A3 s 0)=true):1<=len (runN s):=by
 rw[RW]
 cases s with
 |nil=>exact absurd h1 (by decide)
 |cons b l=>
  have hb:HJ b=true:=by
   rw[VS]
   have e:A3 (b::l) 0=(b.toNat:Int):=rfl
   rw[e]at h
   unfold BM at h
   simp only[Bool.and_eq_true,decide_eq_true_eq]at h
   omega
  rw[List.takeWhile_cons,hb]
  simp[len];omega
theorem j8{s:A1}(h1:0<len s):0<=(AB s).2.1/\(AB s).2.1<=len s/\((AB s).2.2=0->1<=(AB s).2.1)/\((AB s).2.2=0\/(AB s).2.2=1\/(AB s).2.2=2\/(AB s).2.2=4):=by
 have hf:=DV s 1 (by omega) (by omega)
 have hw1:=NR (A4 s 1)
 have hw0:=NR s
 have hu1:=MN (A4 s 1)
 have hu0:=MN s
 have hr:=vU (runN s)
 have hrl:len (runN s)<=len s:=by unfold runN;exact(GV _ _ _).2
 have hrl0:=AA (runN s)
 unfold AB
 split
 ·exact⟨by dsimp only;omega,by dsimp only;omega,λ _=>by dsimp only;omega,.inl U⟩
 ·split
  ·refine⟨by dsimp only;omega,by dsimp only;omega,λ _=>by dsimp only;omega,?_⟩
   dsimp only;omega
  ·split
   ·rename_i hm
    have hp:len (BX s)<=len s:=by
     rcases OP s with h|h
     ·exact absurd h hm
     ·exact YB h.2
    have:=HC hm
    exact⟨by dsimp only;omega,by dsimp only;omega,λ _=>by dsimp only;omega,.inl U⟩
   ·split
    ·rename_i hn
     have:=HC hn
     exact⟨by dsimp only;omega,by dsimp only;omega,λ _=>by dsimp only;omega,.inl U⟩
    ·split
     ·refine⟨by dsimp only;omega,by dsimp only;omega,λ h=>by dsimp only at h ⊢;omega,?_⟩
      dsimp only;omega
     ·split
      ·rename_i hd
       have hp:=wI h1 hd
       split
       ·rename_i he
        exact⟨by dsimp only;omega,by dsimp only;omega,λ h=>absurd h he,by dsimp only;omega⟩
       ·exact⟨by dsimp only;omega,by dsimp only;omega,λ h=>by dsimp only;omega,.inl U⟩
      ·exact⟨Int.le_refl _,by dsimp only;omega,λ h=>absurd h (by decide),.inr (.inl U)⟩
def aD(t:Tk):Prop:=len t.s<=1048576/\len t.c.s<=1048576/\(t.kind=5-> -1000000<=t.c.e/\t.c.e<=1000000)
theorem wJ(r:Int):0<=len (D9 r)/\len (D9 r)<=6:=by
 have:=Lib.encodeRuneZ_length r
 unfold D9
 split
 ·simp only[A7,len_nil];omega
 ·split
  ·simp only[A7,len_nil];omega
  ·unfold Lib.encodeRune len;rw[List.length_map];omega
theorem j9(s:A1)(i:Int)(h0:0<=i)(h1:i<=len s):len (FB s i)<=6*(len s-i):=by
 by_cases h:i<len s
 ·have hb:=RX h0 h
  have ih:=j9 s (i+runeLen s i) (by omega) (by omega)
  have:=wJ (AR s i)
  rw[PQ h0 h,A5];omega
 ·rw[UK h,len_nil];omega
termination_by (len s-i).toNat
decreasing_by have hb:=RX h0 h;omega
theorem jA(s:A1):2<=len (A9 s)/\len (A9 s)<=6*len s+2:=by
 have:=j9 s 0 (Int.le_refl 0) (AA s)
 have h0:=AA (FB s 0)
 unfold A9
 rw[A5,A7,A7,len_nil];omega
end Go.Eng
namespace Go.Eng
open Go.RowKit
def marksOf(c:Int):List A1:=AI.filter (λ m=>A3 m 0==c)
def N6(M:Mem)(l:List KV):Prop:= ∀c:Int,∃v,(BY l c).getD (.slice none 0 0)=v/\Sl M 1 (marksOf c).length v ((marksOf c).flatMap B9)
abbrev MG:=List (KV×List A1)
def jB(e:TypeId)(p:KV×List A1):HO:=.own e 1 p.1.val p.2.length (p.2.flatMap B9)
def KR(e:TypeId)(G:MG):List HO:=G.map (jB e)
def rowOf:MG->Int->List A1
 |[],_=>[]
 |p::G,c=>if c=p.1.key then p.2 else rowOf G c
def O1(k:Int)(G:MG):Prop:= ∀c,rowOf G c=(Eng.sub AI 0 k).filter (λ m=>A3 m 0==c)
theorem O1.start:O1 0 []:=λ _=>rfl
def aE(e:TypeId)(G:MG)(c:Int)(v:Value)(xs:List A1)(R:List HO):Prop:=
 (∃G1 p G2,G=G1++p::G2/\p.1.key=c/\(∀q∈G1,q.1.key≠c)/\v=p.1.val/\xs=p.2/\R=KR e (G1++G2))\/
 ((∀q∈G,q.1.key≠c)/\v= .slice none 0 0/\xs=[]/\R=KR e G)
theorem aF(c:Int): ∀G:MG,(∃G1 p G2,G=G1++p::G2/\p.1.key=c/\(∀q∈G1,q.1.key≠c))\/(∀q∈G,q.1.key≠c)
 |[]=>.inr λ _ h=>by cases h
 |p::G=>by
  by_cases h:p.1.key=c
  ·exact .inl ⟨[],p,G,rfl,h,λ _ h=>by cases h⟩
  ·rcases aF c G with⟨G1,q,G2,h1,h2,h3⟩|h1
   ·refine .inl ⟨p::G1,q,G2,by rw[h1];rfl,h2,λ r hr=>?_⟩
    rcases List.mem_cons.1 hr with rfl|hr
    ·exact h
    ·exact h3 r hr
   ·refine .inr λ r hr=>?_
    rcases List.mem_cons.1 hr with rfl|hr
    ·exact h
    ·exact h1 r hr
theorem aG{c:Int}: ∀(G1:MG) (p:KV×List A1) (G2:MG),p.1.key=c->(∀q∈G1,q.1.key≠c)->BY ((G1++p::G2).map Prod.fst) c=some p.1.val
 |[],p,G2,h,_=>by simp[BY,h]
 |q::G1,p,G2,h,h2=>by
  have: ¬c=q.1.key:=λ e=>h2 q (by simp) e.symm
  simp only[List.cons_append,List.map_cons,BY,beq_iff_eq,this,if_false]
  exact aG G1 p G2 h (λ r hr=>h2 r (by simp[hr]))
theorem aH{c:Int}: ∀G:MG,(∀q∈G,q.1.key≠c)->BY (G.map Prod.fst) c=none
 |[],_=>rfl
 |q::G,h=>by
  have: ¬c=q.1.key:=λ e=>h q (by simp) e.symm
  simp only[List.map_cons,BY,beq_iff_eq,this,if_false]
  exact aH G (λ r hr=>h r (by simp[hr]))
theorem jC{c:Int}(v:Value): ∀(G1:MG) (p:KV×List A1) (G2:MG),p.1.key=c->(∀q∈G1,q.1.key≠c)->HE ((G1++p::G2).map Prod.fst) c v=some ((G1.map Prod.fst)++⟨c,v,p.1.born⟩::G2.map Prod.fst)
 |[],p,G2,h,_=>by simp[HE,h]
 |q::G1,p,G2,h,h2=>by
  have: ¬c=q.1.key:=λ e=>h2 q (by simp) e.symm
  simp only[List.cons_append,List.map_cons,HE,beq_iff_eq,this,if_false]
  have ih:=jC v G1 p G2 h (λ r hr=>h2 r (by simp[hr]))
  rw[ih];rfl
theorem jD{c:Int}(v:Value): ∀G:MG,(∀q∈G,q.1.key≠c)->HE (G.map Prod.fst) c v=none
 |[],_=>rfl
 |q::G,h=>by
  have: ¬c=q.1.key:=λ e=>h q (by simp) e.symm
  simp only[List.map_cons,HE,beq_iff_eq,this,if_false]
  rw[jD v G (λ r hr=>h r (by simp[hr]))];rfl
theorem QP{c:Int}: ∀(G1:MG) (p:KV×List A1) (G2:MG),(∀q∈G1,q.1.key≠p.1.key)->rowOf (G1++p::G2) c=if c=p.1.key then p.2 else rowOf (G1++G2) c
 |[],p,G2,_=>rfl
 |q::G1,p,G2,h=>by
  have ih:=QP (c:=c) G1 p G2 (λ r hr=>h r (by simp[hr]))
  have hq:=h q (by simp)
  simp only[List.cons_append,rowOf]
  by_cases e:c=q.1.key
  ·rw[if_pos e,if_neg (λ e2=>hq (by rw[<-e,e2])),if_pos e]
  ·rw[if_neg e,ih,if_neg e]
theorem wK{c:Int}: ∀(G:MG) (p:KV×List A1),(∀q∈G,q.1.key≠p.1.key)->rowOf (G++[p]) c=if c=p.1.key then p.2 else rowOf G c:=by
 intro G p h
 have:=QP (c:=c) G p [] h
 rw[List.append_nil]at this;exact this
theorem aI{c:Int}: ∀G:MG,(∀q∈G,q.1.key≠c)->rowOf G c=[]
 |[],_=>rfl
 |q::G,h=>by
  rw[rowOf,if_neg (λ e=>h q (by simp) e.symm)]
  exact aI G (λ r hr=>h r (by simp[hr]))
theorem wL{e:TypeId}{G:MG}{c k:Int}{v:Value}{xs:List A1}{R:List HO}(h:aE e G c v xs R)(hG:O1 k G)(h0:0<=k):len xs<=17:=by
 rcases h with⟨G1,p,G2,rfl,h2,h3,rfl,rfl,rfl⟩|⟨_,_,rfl,_⟩
 ·have:=hG c
  rw[QP G1 p G2 (by rw[h2];exact h3),if_pos h2.symm]at this
  rw[this]
  have h4:=List.length_filter_le (λ m=>A3 m 0==c) (Eng.sub AI 0 k)
  have h5:=(GV AI 0 k).2
  have h6:len AI=17:=rfl
  unfold len at*;omega
 ·decide
section
variable {w0 w:World} {M0 M:Mem} {A B C:HO} {e:TypeId} {Rs:List HO}
theorem wM{G:MG}(c:Int)(hS:St w0 M0 w M (A::B::C::(KR e G++Rs))): ∃v xs R,aE e G c v xs R/\(BY (G.map Prod.fst) c).getD (.slice none 0 0)=v/\St w0 M0 w M (A::B::C:: .own e 1 v xs.length (xs.flatMap B9)::(R++Rs)):=by
 rcases aF c G with⟨G1,p,G2,h1,h2,h3⟩|h1
 ·refine⟨_,_,_,.inl ⟨G1,p,G2,h1,h2,h3,rfl,rfl,rfl⟩,by rw[h1,aG G1 p G2 h2 h3];rfl,?_⟩
  refine hS.perm ?_
  refine .cons _ (.cons _ (.cons _ ?_))
  subst h1
  unfold KR
  rw[List.map_append,List.map_append,List.map_cons,List.append_assoc,List.append_assoc,List.cons_append]
  exact List.perm_middle.symm
 ·refine⟨_,_,_,.inr ⟨h1,rfl,rfl,rfl⟩,by rw[aH G h1];rfl,?_⟩
  have:=hS.K8 e 1
  refine this.perm ?_
  exact List.perm_middle (l₁:=[A,B,C])
theorem wN{G:MG}{c:Int}{v:Value}{xs:List A1}{R:List HO}(clk:Nat)(h:aE e G c v xs R)(x:A1)(v':Value): ∃G',FH (G.map Prod.fst) clk c v'=G'.map Prod.fst/\
  (∀ {w:World} {M:Mem},St w0 M0 w M (A::B::C:: .own e 1 v' (xs++[x]).length ((xs++[x]).flatMap B9)::(R++Rs))->St w0 M0 w M (A::B::C::(KR e G'++Rs)))/\
  ∀ {k:Int},0<=k->k<17->x=A2 AI k->c=A3 x 0->O1 k G->O1 (k+1) G':=by
 have hf: ∀ {k:Int},0<=k->k<17->x=A2 AI k-> ∀c',(Eng.sub AI 0 (k+1)).filter (λ m=>A3 m 0==c')=(Eng.sub AI 0 k).filter (λ m=>A3 m 0==c')++if A3 x 0=c' then [x]else []:=by
  intro k h0 h1 hx c'
  rw[sub_succ AI k h0 h1,List.filter_append,show AI.getD k.toNat default=x from hx.symm]
  congr 1
  by_cases e:A3 x 0=c'<;>simp[e]
 rcases h with⟨G1,p,G2,rfl,h2,h3,rfl,rfl,rfl⟩|⟨h1,rfl,rfl,rfl⟩
 ·refine⟨G1++(⟨c,v',p.1.born⟩,p.2++[x])::G2,?_,λ hS=>?_,λ h0 hk hx hc hG c'=>?_⟩
  ·unfold FH;rw[jC v' G1 p G2 h2 h3];simp
  ·refine hS.perm (.cons _ (.cons _ (.cons _ ?_)))
   unfold KR
   rw[List.map_append,List.map_append,List.map_cons,List.append_assoc,List.append_assoc,List.cons_append]
   exact List.perm_middle
  ·have:=hG c'
   rw[QP G1 p G2 (by rw[h2];exact h3)]at this
   rw[QP G1 (⟨c,v',p.1.born⟩,p.2++[x]) G2 h3,hf h0 hk hx,<-this,h2]
   dsimp only
   rw[<-hc]
   by_cases e:c'=c
   ·rw[if_pos e,if_pos e,if_pos e.symm]
   ·rw[if_neg e,if_neg e,if_neg (λ e2=>e e2.symm),List.append_nil]
 ·refine⟨G++[(⟨c,v',clk⟩,[x])],?_,λ hS=>?_,λ h0 hk hx hc hG c'=>?_⟩
  ·unfold FH;rw[jD v' G h1];simp
  ·refine hS.perm (.cons _ (.cons _ (.cons _ ?_)))
   unfold KR
   rw[List.map_append,List.append_assoc]
   exact List.perm_middle
  ·have:=hG c'
   rw[wK G _ h1,hf h0 hk hx,<-this]
   dsimp only
   rw[<-hc]
   by_cases e:c'=c
   ·rw[if_pos e,if_pos e.symm,e,aI G h1];rfl
   ·rw[if_neg e,if_neg (λ e2=>e e2.symm),List.append_nil]
theorem wO{G:MG}(hS:St w0 M0 w M (A::B::C::(KR e G++Rs)))(hG:O1 17 G):N6 M (G.map Prod.fst)/\St w0 M0 w M (A::B::C::Rs):=by
 refine⟨λ c=>?_,hS.drop _ (.cons_cons _ (.cons_cons _ (.cons_cons _ (List.sublist_append_right _ _))))⟩
 have hc:=hG c
 rw[IP AI 17 (Int.le_refl _)]at hc
 have hm:marksOf c=rowOf G c:=hc.symm
 rw[hm]
 rcases aF c G with⟨G1,p,G2,h1,h2,h3⟩|h1
 ·refine⟨_,by rw[h1,aG G1 p G2 h2 h3],?_⟩
  rw[h1,QP G1 p G2 (by rw[h2];exact h3),if_pos h2.symm]
  have hmem:jB e p∈(A::B::C::(KR e G++Rs)):=by
   rw[h1];unfold KR;simp
  obtain⟨i,hi⟩:=List.getElem?_of_mem hmem
  exact hS.sl (i:=i) hi
 ·refine⟨_,by rw[aH G h1],?_⟩
  rw[aI G h1];exact Sl.nil _ 1
end
theorem find_congr{α:Type}{p q:α->Bool}: ∀ {l:List α},(∀x∈l,p x=q x)->l.find? p=l.find? q
 |[],_=>rfl
 |a::l,h=>by
  rw[List.find?_cons,List.find?_cons,h a (by simp),find_congr (λ x hx=>h x (by simp[hx]))]
theorem wP{m:A1}(hm:m∈AI): ¬m=[]:=by
 simp only[AI,List.mem_cons,List.not_mem_nil,or_false]at hm
 rcases hm with rfl|rfl|rfl|rfl|rfl|rfl|rfl|rfl|rfl|rfl|rfl|rfl|rfl|rfl|rfl|rfl|rfl<;>simp
theorem wQ{s m:A1}(h:Lib.hasPrefix s m=true)(hm: ¬m=[]):A3 m 0=A3 s 0:=by
 cases m with
 |nil=>exact absurd U hm
 |cons a m=>
  cases s with
  |nil=>simp[Lib.hasPrefix]at h
  |cons b s=>
   simp only[Lib.hasPrefix,List.isPrefixOf,Bool.and_eq_true,beq_iff_eq]at h
   rw[h.1];rfl
theorem jE(s:A1):BX s=((marksOf (A3 s 0)).find? (λ m=>Lib.hasPrefix s m)).getD []:=by
 unfold BX marksOf
 rw[List.find?_filter]
 congr 1
 refine find_congr λ m hm=>?_
 cases hp:Lib.hasPrefix s m with
 |false=>simp
 |true=>simp[wQ hp (wP hm)]
def KS(s:A1)(L:List A1)(k:Int):Prop:=(Eng.sub L 0 k).find? (λ m=>Lib.hasPrefix s m)=none
theorem KS.step {s:A1}{L:List A1}{k:Int}(h:KS s L k)(h0:0<=k)(h1:k<len L)(h2:Lib.hasPrefix s (A2 L k)=false):KS s L (k+1):=by
 unfold KS at*
 rw[sub_succ L k h0 h1,List.find?_append,h,Option.none_or,List.find?_cons,show L.getD k.toNat default=A2 L k from rfl,h2];rfl
theorem KS.found {s:A1}{L:List A1}{k:Int}(h:KS s L k)(h0:0<=k)(h1:k<len L)(h2:Lib.hasPrefix s (A2 L k)=true):(L.find? (λ m=>Lib.hasPrefix s m)).getD []=A2 L k:=by
 unfold KS at h
 have e:L=Eng.sub L 0 k++A4 L k:=O0 L 0 k (Int.le_refl _) h0
 have hk:k.toNat<L.length:=by unfold len at h1;omega
 have e2:A4 L k=A2 L k::A4 L (k+1):=by
  unfold A4 A2
  rw[show(k+1).toNat=k.toNat+1 from by omega,List.drop_eq_getElem_cons hk]
  simp[hk]
 have e3:L.find? (λ m=>Lib.hasPrefix s m)=some (A2 L k):=by
  conv=>lhs;rw[e]
  rw[List.find?_append,h,e2,List.find?_cons,h2];rfl
 rw[e3];rfl
theorem KS.VT {s:A1}{L:List A1}{k:Int}(h:KS s L k)(hk:len L<=k):(L.find? (λ m=>Lib.hasPrefix s m)).getD []=[]:=by
 unfold KS at h
 rw[IP L k hk]at h;rw[h];rfl
end Go.Eng
set_option maxRecDepth 100000
namespace Go.Proofs.YtmjpjbmeamnfpaaGreatDoor
open Go.Eng
theorem jF:Lib.fields [61,61,32,33,61,32,60,61,32,62,61,32,46,32,124,32,44,32,58,32,40,32,41,32,91,32,93,32,123,32,125,32,60,32,62,32,63]=AI:=by decide+kernel
theorem wR(M:Mem)(w:World)(hM:Sat w M)(hg:Gl w):Calls Tryz.prog 115 [str [61,61,32,33,61,32,60,61,32,62,61,32,46,32,124,32,44,32,58,32,40,32,41,32,91,32,93,32,123,32,125,32,60,32,62,32,63]].toArray w λ e w'=> ∃v M',e= .returned v/\Sl M' 1 AI.length v (AI.flatMap B9)/\Grow w M w' M':=by
 have:=rO M [61,61,32,33,61,32,60,61,32,62,61,32,46,32,124,32,44,32,58,32,40,32,41,32,91,32,93,32,123,32,125,32,60,32,62,32,63] w hM hg (by decide) (rN (by decide)) (by rw[jF];decide)
 rw[jF]at this
 exact this
theorem wS{w wv:World}{M0 M:Mem}{Rs:List HO}(pb b:Nat)(hS:St w M0 wv M (.box pb [(.pointer (some ⟨b,0,none⟩))] 131:: .box b [(.int .u32 0),(.int .i32 1),(.int .u32 0),(.map none)] 104::Rs))(hg:Gl w):
  Calls Tryz.prog 114 [(.pointer (some ⟨pb,0,none⟩))].toArray wv λ e w'=> ∃v,e= .returned v/\ ∃mb l c M',v= .tuple #[]/\N6 M' l/\St w M0 w' M' (.raw mb (AP .u8 l c):: .box pb [.pointer (some ⟨b,0,none⟩)] 131:: .box b [.int .u32 0,.int .i32 1,.int .u32 0,.map (some mb)] 104::Rs)/\M.le M':=by
 refine CW.BN Tryz.func114 U Tryz.ntmps114 (Nat.le_of_ble_eq_true U) λ Q hE=>?_
 have hm17:len AI=17:=rfl
 refine CW.weaken [0] (L':=[Y 0 (.pointer (some ⟨pb,0,none⟩))]) ?_ U
 refine CW.sr (RL.u (.BA (v:=(.pointer (some ⟨b,0,none⟩))) hS AX (i:=0) U (.t U) Tryz.isAgg131 U) U ?_)
 refine RL.makeMap .u8 hS U (λ w1 b2 hS3=>?_)
 replace hS3:St w M0 w1 M (.raw b2 (AP .u8 [] 0):: .box pb [(.pointer (some ⟨b,0,none⟩))] 131:: .box b [(.int .u32 0),(.int .i32 1),(.int .u32 0),(.map none)] 104::Rs):=hS3
 refine RL.u (.I2 (.t U)) U (RL.u (.BR (q:=⟨b,3,none⟩) (.t U) (λ w=>by kernel_rfl)) U ?_)
 refine RL.st hS3 (i:=2) U (.t U) (.t U) Tryz.sizeOf102 U U U U U (λ w4 hS5=>(RL.nil (CW.id ?_)))
 refine CW.sr ?_
 refine RL.pT hS5 Tryz.call115 (.cons .c .nil) ((wR M _ hS5.sat (hg.low hS5.low))) U ?_
 rintro v6 w7 M8 hS9 hle10 hsl_v6
 refine RL.u (.PH hsl_v6 (.t U) ⟨_,Tryz.underlying32⟩) U (RL.u (.move .c) U ?_)
 refine RL.nil (CW.at [Y 0 (.pointer (some ⟨pb,0,none⟩)),Y 7 v6,Y 8 (i64 (len AI)),Y 9 (i64 0)] U (CW.block ?_))
 refine CW.loop (σ:=Int×MG×Nat×Mem) (λ(k,G,clk,Ml)=>[Y 0 (.pointer (some ⟨pb,0,none⟩)),Y 7 v6,Y 8 (i64 (len AI)),Y 9 (i64 k)]) (λ(k,G,clk,Ml) wl=>St w M0 wl Ml (.raw b2 (AP .u8 (G.map Prod.fst) clk):: .box pb [(.pointer (some ⟨b,0,none⟩))] 131:: .box b [(.int .u32 0),(.int .i32 1),(.int .u32 0),(.map (some b2))] 104::(KR 9 G++Rs))/\Sl Ml 1 AI.length v6 (AI.flatMap B9)/\0<=k/\k<=17/\O1 k G/\M.le Ml) (λ(k,G,clk,Ml)=>(17-k).toNat) ((0,[],0,M8)) [0,7,8,9] U ?_ ?_
 ·refine⟨hS9,hsl_v6,?_⟩;exact⟨by omega,by omega,O1.start,hle10⟩
 ·rintro⟨k,G,clk,Ml⟩ wl ⟨hS12,hsl_v6,h0,h1,hG,hMl⟩
  have hml:=λ h=>wH h0 (k:=k) h
  refine CW.sr (RL.u (.lss (.t U) (.t U)) U (RL.nil (CW.id (CW.seq ?_))))
  refine CW.cond rfl ?_ ?_<;>intro hb1<;>try simp only[zb]at hb1
  ·refine CW.skip (CW.id (CW.seq (CW.block (CW.sr ?_))))
   refine RL.u (.U8 hsl_v6 (.t U) (.t U) Tryz.underlying32 Tryz.sizeOf9 (λ _=>by first|omega)) U (RL.u (.U6 (f:=B9) (i:=k) (j:=0) (u:=(str (A2 AI k))) hS12 AX hsl_v6 DO (.t U) Tryz.isAgg9 (λ _=>by first|omega) U U) U (RL.a U U (RL.nil (CW.id ?_))))
   obtain⟨vx13,xs14,R15,hO16,hget17,hS18⟩:=wM (A3 (A2 AI k) 0) hS12
   replace hS18:St w M0 wl Ml (.raw b2 (AP .u8 (G.map Prod.fst) clk):: .box pb [(.pointer (some ⟨b,0,none⟩))] 131:: .box b [(.int .u32 0),(.int .i32 1),(.int .u32 0),(.map (some b2))] 104:: .own 9 1 vx13 xs14.length (xs14.flatMap B9)::(R15++Rs)):=hS18
   have hxl:=wL hO16 hG h0
   refine CW.weaken [0,2,7,8,9] (L':=[Y 0 (.pointer (some ⟨pb,0,none⟩)),Y 2 (str (A2 AI k)),Y 7 v6,Y 8 (i64 (len AI)),Y 9 (i64 k)]) ?_ U
   replace hS18:St w M0 wl Ml (.box pb [(.pointer (some ⟨b,0,none⟩))] 131:: .box b [(.int .u32 0),(.int .i32 1),(.int .u32 0),(.map (some b2))] 104:: .raw b2 (AP .u8 (G.map Prod.fst) clk):: .own 9 1 vx13 xs14.length (xs14.flatMap B9)::(R15++Rs)):=(hS18.front 2 U U).front 2 U U
   replace hS18:St w M0 wl Ml (.raw b2 (AP .u8 (G.map Prod.fst) clk):: .box pb [(.pointer (some ⟨b,0,none⟩))] 131:: .box b [(.int .u32 0),(.int .i32 1),(.int .u32 0),(.map (some b2))] 104:: .own 9 1 vx13 xs14.length (xs14.flatMap B9)::(R15++Rs)):=hS18.front 2 U U
   refine CW.r6 (HsQ:=[.raw b2 (AP .u8 (G.map Prod.fst) clk),.box pb [(.pointer (some ⟨b,0,none⟩))] 131,.box b [(.int .u32 0),(.int .i32 1),(.int .u32 0),(.map (some b2))] 104]) 16 [.is true (.pointer (some ⟨b,0,none⟩)),.is true (.pointer (some ⟨b,0,none⟩)),.is true (.pointer (some ⟨b,3,none⟩)),.is true (.map (some b2)),.is true (str (A2 AI k)),.is true (.int .u8 (A3 (A2 AI k) 0)),.is true (.pointer (some ⟨b,0,none⟩)),.is true (.pointer (some ⟨b,0,none⟩)),.is true (.pointer (some ⟨b,3,none⟩)),.is true (.map (some b2)),.is true (str (A2 AI k)),.is true (.int .u8 (A3 (A2 AI k) 0)),.is true vx13,.is true (str (A2 AI k)),.any,.any,.any] [(27,.eq λ vz=>(.own 9 1 vz (([A2 AI k]:List A1)).length ((([A2 AI k]:List A1)).flatMap B9):: .own 9 1 vx13 xs14.length (xs14.flatMap B9)::(R15++Rs))),(28,.eq λ vz=>(.own 9 1 vz (xs14++[A2 AI k]).length ((xs14++[A2 AI k]).flatMap B9)::(R15++Rs)))] (.own 9 1 vx13 xs14.length (xs14.flatMap B9)::(R15++Rs)) [none,none,none,none,none,none,none,none,none,none,none,none,none,none,some 0,some 1] hS18 MK [0,2,7,8,9] U (by decide+kernel) (by decide+kernel) U U (by decide+kernel) (by decide+kernel) [27,28] U (by decide+kernel) (.cons ?_ (.cons ?_ (.cons ?_ (.cons ?_ (.cons ?_ (.cons ?_ (.cons ?_ (.cons ?_ (.cons ?_ (.cons ?_ (.cons ?_ (.cons ?_ (.cons ?_ (.cons ?_ (.cons ?_ (.cons ?_ (.cons ?_ (.nil))))))))))))))))))
   ·intro LL w19 M20 X hle22 hS21 hK hD
    replace hsl_v6:=hsl_v6.mono hle22
    replace hS21:St w M0 w19 M20 (.raw b2 (AP .u8 (G.map Prod.fst) clk):: .box pb [(.pointer (some ⟨b,0,none⟩))] 131:: .box b [(.int .u32 0),(.int .i32 1),(.int .u32 0),(.map (some b2))] 104::X):=hS21
    refine RL.u (.BA (v:=(.pointer (some ⟨b,0,none⟩))) hS21 AX (i:=1) U (.t (hK _ _ U)) Tryz.isAgg131 U) U ?_
    exact RL.nil (RA.next λ a hs=>⟨_,_,Mem.le.refl _,hS21,hs,_,_,rfl,rfl,rfl⟩)
   ·intro LL w23 M24 X hle26 hS25 hK hD
    replace hsl_v6:=hsl_v6.mono hle26
    replace hS25:St w M0 w23 M24 (.raw b2 (AP .u8 (G.map Prod.fst) clk):: .box pb [(.pointer (some ⟨b,0,none⟩))] 131:: .box b [(.int .u32 0),(.int .i32 1),(.int .u32 0),(.map (some b2))] 104::X):=hS25
    obtain⟨g13,v13,hl13,rfl,rfl⟩:=hD 0 (by decide+kernel)
    refine RL.u (.I2 (.t hl13)) U ?_
    exact RL.nil (RA.next λ a hs=>⟨_,_,Mem.le.refl _,hS25,hs,_,_,rfl,rfl,rfl⟩)
   ·intro LL w27 M28 X hle30 hS29 hK hD
    replace hsl_v6:=hsl_v6.mono hle30
    replace hS29:St w M0 w27 M28 (.raw b2 (AP .u8 (G.map Prod.fst) clk):: .box pb [(.pointer (some ⟨b,0,none⟩))] 131:: .box b [(.int .u32 0),(.int .i32 1),(.int .u32 0),(.map (some b2))] 104::X):=hS29
    obtain⟨g14,v14,hl14,rfl,rfl⟩:=hD 1 (by decide+kernel)
    refine RL.u (.BR (q:=⟨b,3,none⟩) (.t hl14) (λ w=>by kernel_rfl)) U ?_
    exact RL.nil (RA.next λ a hs=>⟨_,_,Mem.le.refl _,hS29,hs,_,_,rfl,rfl,rfl⟩)
   ·intro LL w31 M32 X hle34 hS33 hK hD
    replace hsl_v6:=hsl_v6.mono hle34
    replace hS33:St w M0 w31 M32 (.raw b2 (AP .u8 (G.map Prod.fst) clk):: .box pb [(.pointer (some ⟨b,0,none⟩))] 131:: .box b [(.int .u32 0),(.int .i32 1),(.int .u32 0),(.map (some b2))] 104::X):=hS33
    obtain⟨g15,v15,hl15,rfl,rfl⟩:=hD 2 (by decide+kernel)
    refine RL.u (.BA (v:=(.map (some b2))) hS33 AX (i:=2) U (.t hl15) Tryz.isAgg102 U) U ?_
    exact RL.nil (RA.next λ a hs=>⟨_,_,Mem.le.refl _,hS33,hs,_,_,rfl,rfl,rfl⟩)
   ·intro LL w35 M36 X hle38 hS37 hK hD
    replace hsl_v6:=hsl_v6.mono hle38
    replace hS37:St w M0 w35 M36 (.raw b2 (AP .u8 (G.map Prod.fst) clk):: .box pb [(.pointer (some ⟨b,0,none⟩))] 131:: .box b [(.int .u32 0),(.int .i32 1),(.int .u32 0),(.map (some b2))] 104::X):=hS37
    refine RL.u (.move (.t (hK _ _ U))) U ?_
    exact RL.nil (RA.next λ a hs=>⟨_,_,Mem.le.refl _,hS37,hs,_,_,rfl,rfl,rfl⟩)
   ·intro LL w39 M40 X hle42 hS41 hK hD
    replace hsl_v6:=hsl_v6.mono hle42
    replace hS41:St w M0 w39 M40 (.raw b2 (AP .u8 (G.map Prod.fst) clk):: .box pb [(.pointer (some ⟨b,0,none⟩))] 131:: .box b [(.int .u32 0),(.int .i32 1),(.int .u32 0),(.map (some b2))] 104::X):=hS41
    obtain⟨g17,v17,hl17,rfl,rfl⟩:=hD 4 (by decide+kernel)
    refine RL.u (.C4 (.t hl17) .c Tryz.underlying9 (λ _=>by first|omega)) U ?_
    exact RL.nil (RA.next λ a hs=>⟨_,_,Mem.le.refl _,hS41,hs,_,_,rfl,rfl,rfl⟩)
   ·intro LL w43 M44 X hle46 hS45 hK hD
    replace hsl_v6:=hsl_v6.mono hle46
    replace hS45:St w M0 w43 M44 (.raw b2 (AP .u8 (G.map Prod.fst) clk):: .box pb [(.pointer (some ⟨b,0,none⟩))] 131:: .box b [(.int .u32 0),(.int .i32 1),(.int .u32 0),(.map (some b2))] 104::X):=hS45
    refine RL.u (.BA (v:=(.pointer (some ⟨b,0,none⟩))) hS45 AX (i:=1) U (.t (hK _ _ U)) Tryz.isAgg131 U) U ?_
    exact RL.nil (RA.next λ a hs=>⟨_,_,Mem.le.refl _,hS45,hs,_,_,rfl,rfl,rfl⟩)
   ·intro LL w47 M48 X hle50 hS49 hK hD
    replace hsl_v6:=hsl_v6.mono hle50
    replace hS49:St w M0 w47 M48 (.raw b2 (AP .u8 (G.map Prod.fst) clk):: .box pb [(.pointer (some ⟨b,0,none⟩))] 131:: .box b [(.int .u32 0),(.int .i32 1),(.int .u32 0),(.map (some b2))] 104::X):=hS49
    obtain⟨g19,v19,hl19,rfl,rfl⟩:=hD 6 (by decide+kernel)
    refine RL.u (.I2 (.t hl19)) U ?_
    exact RL.nil (RA.next λ a hs=>⟨_,_,Mem.le.refl _,hS49,hs,_,_,rfl,rfl,rfl⟩)
   ·intro LL w51 M52 X hle54 hS53 hK hD
    replace hsl_v6:=hsl_v6.mono hle54
    replace hS53:St w M0 w51 M52 (.raw b2 (AP .u8 (G.map Prod.fst) clk):: .box pb [(.pointer (some ⟨b,0,none⟩))] 131:: .box b [(.int .u32 0),(.int .i32 1),(.int .u32 0),(.map (some b2))] 104::X):=hS53
    obtain⟨g20,v20,hl20,rfl,rfl⟩:=hD 7 (by decide+kernel)
    refine RL.u (.BR (q:=⟨b,3,none⟩) (.t hl20) (λ w=>by kernel_rfl)) U ?_
    exact RL.nil (RA.next λ a hs=>⟨_,_,Mem.le.refl _,hS53,hs,_,_,rfl,rfl,rfl⟩)
   ·intro LL w55 M56 X hle58 hS57 hK hD
    replace hsl_v6:=hsl_v6.mono hle58
    replace hS57:St w M0 w55 M56 (.raw b2 (AP .u8 (G.map Prod.fst) clk):: .box pb [(.pointer (some ⟨b,0,none⟩))] 131:: .box b [(.int .u32 0),(.int .i32 1),(.int .u32 0),(.map (some b2))] 104::X):=hS57
    obtain⟨g21,v21,hl21,rfl,rfl⟩:=hD 8 (by decide+kernel)
    refine RL.u (.BA (v:=(.map (some b2))) hS57 AX (i:=2) U (.t hl21) Tryz.isAgg102 U) U ?_
    exact RL.nil (RA.next λ a hs=>⟨_,_,Mem.le.refl _,hS57,hs,_,_,rfl,rfl,rfl⟩)
   ·intro LL w59 M60 X hle62 hS61 hK hD
    replace hsl_v6:=hsl_v6.mono hle62
    replace hS61:St w M0 w59 M60 (.raw b2 (AP .u8 (G.map Prod.fst) clk):: .box pb [(.pointer (some ⟨b,0,none⟩))] 131:: .box b [(.int .u32 0),(.int .i32 1),(.int .u32 0),(.map (some b2))] 104::X):=hS61
    refine RL.u (.move (.t (hK _ _ U))) U ?_
    exact RL.nil (RA.next λ a hs=>⟨_,_,Mem.le.refl _,hS61,hs,_,_,rfl,rfl,rfl⟩)
   ·intro LL w63 M64 X hle66 hS65 hK hD
    replace hsl_v6:=hsl_v6.mono hle66
    replace hS65:St w M0 w63 M64 (.raw b2 (AP .u8 (G.map Prod.fst) clk):: .box pb [(.pointer (some ⟨b,0,none⟩))] 131:: .box b [(.int .u32 0),(.int .i32 1),(.int .u32 0),(.map (some b2))] 104::X):=hS65
    obtain⟨g23,v23,hl23,rfl,rfl⟩:=hD 10 (by decide+kernel)
    refine RL.u (.C4 (.t hl23) .c Tryz.underlying9 (λ _=>by first|omega)) U ?_
    exact RL.nil (RA.next λ a hs=>⟨_,_,Mem.le.refl _,hS65,hs,_,_,rfl,rfl,rfl⟩)
   ·intro LL w67 M68 X hle70 hS69 hK hD
    replace hsl_v6:=hsl_v6.mono hle70
    replace hS69:St w M0 w67 M68 (.raw b2 (AP .u8 (G.map Prod.fst) clk):: .box pb [(.pointer (some ⟨b,0,none⟩))] 131:: .box b [(.int .u32 0),(.int .i32 1),(.int .u32 0),(.map (some b2))] 104::X):=hS69
    obtain⟨g22,v22,hl22,rfl,rfl⟩:=hD 9 (by decide+kernel)
    obtain⟨g24,v24,hl24,rfl,rfl⟩:=hD 11 (by decide+kernel)
    refine RL.u (.lookup (k:=.u8) (v:=vx13) hS69 AX (i:=0) U (.t hl22) (.t hl24) Tryz.underlying102 Tryz.underlying5 Tryz.zeroValue32 hget17) U ?_
    exact RL.nil (RA.next λ a hs=>⟨_,_,Mem.le.refl _,hS69,hs,_,_,rfl,rfl,rfl⟩)
   ·intro LL w71 M72 X hle74 hS73 hK hD
    replace hsl_v6:=hsl_v6.mono hle74
    replace hS73:St w M0 w71 M72 (.raw b2 (AP .u8 (G.map Prod.fst) clk):: .box pb [(.pointer (some ⟨b,0,none⟩))] 131:: .box b [(.int .u32 0),(.int .i32 1),(.int .u32 0),(.map (some b2))] 104::X):=hS73
    refine RL.u (.move (.t (hK _ _ U))) U ?_
    exact RL.nil (RA.next λ a hs=>⟨_,_,Mem.le.refl _,hS73,hs,_,_,rfl,rfl,rfl⟩)
   ·intro LL w75 M76 X hle78 hS77 hK hD hX
    replace hsl_v6:=hsl_v6.mono hle78
    obtain rfl:(.own 9 1 vx13 xs14.length (xs14.flatMap B9)::(R15++Rs))=X:=Eq.symm hX
    replace hS77:St w M0 w75 M76 (.raw b2 (AP .u8 (G.map Prod.fst) clk):: .box pb [(.pointer (some ⟨b,0,none⟩))] 131:: .box b [(.int .u32 0),(.int .i32 1),(.int .u32 0),(.map (some b2))] 104:: .own 9 1 vx13 xs14.length (xs14.flatMap B9)::(R15++Rs)):=hS77
    obtain⟨g26,v26,hl26,rfl,rfl⟩:=hD 13 (by decide+kernel)
    refine RL.buildSlice (n:=1) (sz:=1) (e:=9) (vs:=[(0,(str (A2 AI k)))]) (cs:=[(str (A2 AI k))]) hS77 (.cons (.t hl26) .nil) U U (λ w=>by kernel_rfl) U (λ v79 w80 M81 hS82 hle83=>?_)
    replace hS82:St w M0 w80 M81 (.own 9 1 v79 (([A2 AI k]:List A1)).length ((([A2 AI k]:List A1)).flatMap B9):: .raw b2 (AP .u8 (G.map Prod.fst) clk):: .box pb [(.pointer (some ⟨b,0,none⟩))] 131:: .box b [(.int .u32 0),(.int .i32 1),(.int .u32 0),(.map (some b2))] 104:: .own 9 1 vx13 xs14.length (xs14.flatMap B9)::(R15++Rs)):=hS82
    replace hsl_v6:=hsl_v6.mono hle83
    replace hS82:St w M0 w80 M81 (.box pb [(.pointer (some ⟨b,0,none⟩))] 131:: .box b [(.int .u32 0),(.int .i32 1),(.int .u32 0),(.map (some b2))] 104:: .own 9 1 v79 (([A2 AI k]:List A1)).length ((([A2 AI k]:List A1)).flatMap B9):: .raw b2 (AP .u8 (G.map Prod.fst) clk):: .own 9 1 vx13 xs14.length (xs14.flatMap B9)::(R15++Rs)):=(hS82.front 3 U U).front 3 U U
    replace hS82:St w M0 w80 M81 (.raw b2 (AP .u8 (G.map Prod.fst) clk):: .box pb [(.pointer (some ⟨b,0,none⟩))] 131:: .box b [(.int .u32 0),(.int .i32 1),(.int .u32 0),(.map (some b2))] 104:: .own 9 1 v79 (([A2 AI k]:List A1)).length ((([A2 AI k]:List A1)).flatMap B9):: .own 9 1 vx13 xs14.length (xs14.flatMap B9)::(R15++Rs)):=hS82.front 3 U U
    exact RL.nil (RA.next λ a hs=>⟨_,_,(.own 9 1 v79 (([A2 AI k]:List A1)).length ((([A2 AI k]:List A1)).flatMap B9):: .own 9 1 vx13 xs14.length (xs14.flatMap B9)::(R15++Rs)),hle83,hS82,hs,⟨_,_,rfl,trivial⟩,⟨_,rfl,rfl⟩⟩)
   ·intro LL w84 M85 X hle87 hS86 hK hD hX
    replace hsl_v6:=hsl_v6.mono hle87
    obtain⟨vx88,hl27,rfl⟩:=hX
    replace hS86:St w M0 w84 M85 (.raw b2 (AP .u8 (G.map Prod.fst) clk):: .box pb [(.pointer (some ⟨b,0,none⟩))] 131:: .box b [(.int .u32 0),(.int .i32 1),(.int .u32 0),(.map (some b2))] 104:: .own 9 1 vx88 (([A2 AI k]:List A1)).length ((([A2 AI k]:List A1)).flatMap B9):: .own 9 1 vx13 xs14.length (xs14.flatMap B9)::(R15++Rs)):=hS86
    obtain⟨g25,v25,hl25,rfl,hv25⟩:=hD 12 (by decide+kernel)
    subst v25
    refine RL.RD (f:=B9) (l:=xs14) (y:=A2 AI k) hS86 (k:=4) U (.t hl25) (.t hl27) (hS86.sl (i:=3) U) Tryz.underlying32 Tryz.type9 U U U dS (by':=16) U U (by first|omega) U (Hs':=λ v'=>(.raw b2 (AP .u8 (G.map Prod.fst) clk):: .box pb [(.pointer (some ⟨b,0,none⟩))] 131:: .box b [(.int .u32 0),(.int .i32 1),(.int .u32 0),(.map (some b2))] 104:: .own 9 1 vx88 (([A2 AI k]:List A1)).length ((([A2 AI k]:List A1)).flatMap B9):: .own 9 1 v' (xs14++[A2 AI k]).length ((xs14++[A2 AI k]).flatMap B9)::(R15++Rs))) (λ _=>rfl) (λ v89 w90 M91 hS92 hle93=>?_)
    replace hS92:=hS92.erase 3 U
    replace hsl_v6:=hsl_v6.mono hle93
    replace hS92:St w M0 w90 M91 (.box pb [(.pointer (some ⟨b,0,none⟩))] 131:: .box b [(.int .u32 0),(.int .i32 1),(.int .u32 0),(.map (some b2))] 104:: .raw b2 (AP .u8 (G.map Prod.fst) clk):: .own 9 1 v89 (xs14++[A2 AI k]).length ((xs14++[A2 AI k]).flatMap B9)::(R15++Rs)):=(hS92.front 2 U U).front 2 U U
    replace hS92:St w M0 w90 M91 (.raw b2 (AP .u8 (G.map Prod.fst) clk):: .box pb [(.pointer (some ⟨b,0,none⟩))] 131:: .box b [(.int .u32 0),(.int .i32 1),(.int .u32 0),(.map (some b2))] 104:: .own 9 1 v89 (xs14++[A2 AI k]).length ((xs14++[A2 AI k]).flatMap B9)::(R15++Rs)):=hS92.front 2 U U
    exact RL.nil (RA.next λ a hs=>⟨_,_,(.own 9 1 v89 (xs14++[A2 AI k]).length ((xs14++[A2 AI k]).flatMap B9)::(R15++Rs)),hle93,hS92,hs,⟨_,_,rfl,trivial⟩,⟨_,rfl,rfl⟩⟩)
   ·intro LL w94 M95 X hle97 hS96 hK hD hX
    replace hsl_v6:=hsl_v6.mono hle97
    obtain⟨vx98,hl28,rfl⟩:=hX
    replace hS96:St w M0 w94 M95 (.raw b2 (AP .u8 (G.map Prod.fst) clk):: .box pb [(.pointer (some ⟨b,0,none⟩))] 131:: .box b [(.int .u32 0),(.int .i32 1),(.int .u32 0),(.map (some b2))] 104:: .own 9 1 vx98 (xs14++[A2 AI k]).length ((xs14++[A2 AI k]).flatMap B9)::(R15++Rs)):=hS96
    obtain⟨g16,v16,hl16,rfl,rfl⟩:=hD 3 (by decide)
    obtain⟨g18,v18,hl18,rfl,rfl⟩:=hD 5 (by decide)
    refine RL.eI (v:=vx98) hS96 (i:=0) U (.t hl16) (.t hl18) (.t hl28) Tryz.underlying102 Tryz.underlying5 (l':=(FH (G.map Prod.fst) clk (A3 (A2 AI k) 0) vx98)) U (c':=(HF (G.map Prod.fst) clk (A3 (A2 AI k) 0) vx98)) U (Hs':=(.raw b2 (AP .u8 (FH (G.map Prod.fst) clk (A3 (A2 AI k) 0) vx98) (HF (G.map Prod.fst) clk (A3 (A2 AI k) 0) vx98)):: .box pb [(.pointer (some ⟨b,0,none⟩))] 131:: .box b [(.int .u32 0),(.int .i32 1),(.int .u32 0),(.map (some b2))] 104:: .own 9 1 vx98 (xs14++[A2 AI k]).length ((xs14++[A2 AI k]).flatMap B9)::(R15++Rs))) U (λ w99 hS100=>?_)
    refine RL.nil (eJ (E:=[Y 0 (.pointer (some ⟨pb,0,none⟩)),Y 2 (str (A2 AI k)),Y 7 v6,Y 8 (i64 (len AI)),Y 9 (i64 k)]) (.cons (hK _ _ U) (.cons (hK _ _ U) (.cons (hK _ _ U) (.cons (hK _ _ U) (.cons (hK _ _ U) .nil))))) ?_)
    refine(CW.at [Y 0 (.pointer (some ⟨pb,0,none⟩)),Y 7 v6,Y 8 (i64 (len AI)),Y 9 (i64 k)] U ?_)
    refine CW.region (RL.u (.add (.t U) .c (λ _=>by first|omega)) U (RL.m U U ?_))
    replace hS100:St w M0 w99 M95 (.box pb [(.pointer (some ⟨b,0,none⟩))] 131:: .box b [(.int .u32 0),(.int .i32 1),(.int .u32 0),(.map (some b2))] 104:: .raw b2 (AP .u8 (FH (G.map Prod.fst) clk (A3 (A2 AI k) 0) vx98) (HF (G.map Prod.fst) clk (A3 (A2 AI k) 0) vx98)):: .own 9 1 vx98 (xs14++[A2 AI k]).length ((xs14++[A2 AI k]).flatMap B9)::(R15++Rs)):=(hS100.front 2 U U).front 2 U U
    replace hS100:St w M0 w99 M95 (.raw b2 (AP .u8 (FH (G.map Prod.fst) clk (A3 (A2 AI k) 0) vx98) (HF (G.map Prod.fst) clk (A3 (A2 AI k) 0) vx98)):: .box pb [(.pointer (some ⟨b,0,none⟩))] 131:: .box b [(.int .u32 0),(.int .i32 1),(.int .u32 0),(.map (some b2))] 104:: .own 9 1 vx98 (xs14++[A2 AI k]).length ((xs14++[A2 AI k]).flatMap B9)::(R15++Rs)):=hS100.front 2 U U
    obtain⟨G102,hG1,hG2,hG3⟩:=wN (w0:=w) (M0:=M0) (A:=.raw b2 (AP .u8 (FH (G.map Prod.fst) clk (A3 (A2 AI k) 0) vx98) (HF (G.map Prod.fst) clk (A3 (A2 AI k) 0) vx98))) (B:=.box pb [(.pointer (some ⟨b,0,none⟩))] 131) (C:=.box b [(.int .u32 0),(.int .i32 1),(.int .u32 0),(.map (some b2))] 104) (Rs:=Rs) clk hO16 (A2 AI k) vx98
    have hS101:=hG2 hS100
    rw[hG1]at hS101
    refine RL.nil λ a hs=>Exists.intro ((k+1,G102,(HF (G.map Prod.fst) clk (A3 (A2 AI k) 0) vx98),M95)) ⟨hs.BG [0,7,8,9],?_,?_⟩
    ·refine⟨hS101,hsl_v6,?_⟩
     exact⟨by omega,by omega,hG3 h0 (by omega) U U hG,(hMl.trans hle97)⟩
    ·show Int.toNat _<Int.toNat _;omega
  ·obtain⟨hMM,hS103⟩:=wO hS12 (by rw[show(17:Int)=k from by omega];exact hG)
   replace hS103:St w M0 wl Ml (.box pb [(.pointer (some ⟨b,0,none⟩))] 131:: .box b [(.int .u32 0),(.int .i32 1),(.int .u32 0),(.map (some b2))] 104:: .raw b2 (AP .u8 (G.map Prod.fst) clk)::Rs):=(hS103.front 2 U U).front 2 U U
   replace hS103:St w M0 wl Ml (.raw b2 (AP .u8 (G.map Prod.fst) clk):: .box pb [(.pointer (some ⟨b,0,none⟩))] 131:: .box b [(.int .u32 0),(.int .i32 1),(.int .u32 0),(.map (some b2))] 104::Rs):=hS103.front 2 U U
   refine CW.exit (hE.e0 U ?_)
   exact⟨_,rfl,_,_,_,Ml,rfl,hMM,hS103,hMl⟩
end Go.Proofs.YtmjpjbmeamnfpaaGreatDoor
set_option maxRecDepth 100000
namespace Go.Proofs.YtmjpjbmeamnfpaaGreatDoor
open Go.Eng
theorem aJ{w:World}{b:Nat}{cs:List Value}{t:TypeId}(i:Nat)(x:Value)(h:w.heap[b]? =some (.cells cs.toArray t (0,0))):w.setCell ⟨b,i,none⟩ x=w.setRow b (cs.set i x).toArray:=by
 unfold World.setCell World.setRow
 congr 1
 apply Array.ext_getElem?
 intro k
 by_cases hk:b=k
 ·subst hk;simp[Array.getElem?_modify,h]
 ·simp[Array.getElem?_modify,hk]
theorem T0{w:World}{b:Nat}{cs:List Value}{t:TypeId}(h:w.heap[b]? =some (.cells cs.toArray t (0,0)))(i:Nat):w.cell? ⟨b,i,none⟩=cs[i]?:=by simp[World.cell?,h]
theorem aK{w:World}{b:Nat}{cs:List Value}{t:TypeId}(h:w.heap[b]? =some (.cells cs.toArray t (0,0)))(i:Nat):w.frozen? ⟨b,i,none⟩=false:=by simp[World.frozen?,h]
def LX(M:Mem)(cs:List Value)(X:HO):Prop:=
 (cs=[.int .u32 0,.int .i32 0,.int .u32 0,.map none]/\X= .own 9 1 (.slice none 0 0) 0 [])\/
 ∃mb l c,cs=[.int .u32 1,.int .i32 0,.int .u32 0,.map (some mb)]/\X= .raw mb (AP .u8 l c)/\N6 M l
theorem N6.mono {M M':Mem}{l:List KV}(h:N6 M l)(hm:M.le M'):N6 M' l:=λ c=>by obtain⟨v,h1,h2⟩:=h c;exact⟨v,h1,h2.mono hm⟩
theorem LX.mono {M M':Mem}{cs:List Value}{X:HO}(h:LX M cs X)(hm:M.le M'):LX M' cs X:=h.imp id λ⟨mb,l,c,h1,h2,h3⟩=>⟨mb,l,c,h1,h2,N6.mono h3 hm⟩
theorem wT{w wv:World}{M0 M:Mem}{Rs:List HO}(pb b:Nat)(cs:List Value)(X:HO)(hS:St w M0 wv M (.box pb [.pointer (some ⟨b,0,none⟩)] 131:: .box b cs 104::X::Rs))(hm:LX M cs X)(hg:Gl w):
  Calls Tryz.prog 113 [.pointer (some ⟨b,0,none⟩),.func (.func 114) #[] #[.pointer (some ⟨pb,0,none⟩)]].toArray wv λ e w'=> ∃v,e= .returned v/\ ∃mb l c M',v= .tuple #[]/\N6 M' l/\St w M0 w' M' (.box pb [.pointer (some ⟨b,0,none⟩)] 131:: .box b [.int .u32 1,.int .i32 0,.int .u32 0,.map (some mb)] 104:: .raw mb (AP .u8 l c)::Rs)/\M.le M':=by
 rcases hm with⟨rfl,rfl⟩|⟨mb,l,c,rfl,rfl,hM⟩
 ·have hb:=(hS.obj (i:=1) U).2.1
  have hS1:St w M0 (wv.setCell ⟨b,1,none⟩ (.int .i32 1)) M (.box pb [.pointer (some ⟨b,0,none⟩)] 131:: .box b [.int .u32 0,.int .i32 1,.int .u32 0,.map none] 104:: .own 9 1 (.slice none 0 0) 0 []::Rs):=by
   rw[aJ 1 _ hb];exact hS.RB (i:=1) U _
  have hS2:=hS1.erase 2 (Hs':=.box pb [.pointer (some ⟨b,0,none⟩)] 131:: .box b [.int .u32 0,.int .i32 1,.int .u32 0,.map none] 104::Rs) U
  refine(vO 114 #[.pointer (some ⟨pb,0,none⟩)] b wv (λ w1=> ∃mb l c M',N6 M' l/\St w M0 w1 M' (.raw mb (AP .u8 l c):: .box pb [.pointer (some ⟨b,0,none⟩)] 131:: .box b [.int .u32 0,.int .i32 1,.int .u32 0,.map (some mb)] 104::Rs)/\M.le M') Tryz.call114 (by rw[T0 hb];rfl) (by rw[T0 hb];rfl) (aK hb 1) ?_).mono ?_
  ·refine(wS pb b hS2 hg).mono ?_
   rintro e w' ⟨v,rfl,mb,l,c,M',rfl,h1,h2,h3⟩
   have hb':=(h2.obj (i:=2) U).2.1
   exact⟨rfl,by rw[T0 hb'];rfl,aK hb' 0,by rw[T0 hb'];rfl,aK hb' 1,mb,l,c,M',h1,h2,h3⟩
  ·rintro e w' ⟨rfl,w1,⟨mb,l,c,M',h1,h2,h3⟩,_,_,_,_,rfl⟩
   refine⟨_,rfl,mb,l,c,M',rfl,h1,?_,h3⟩
   have h4:=h2.ext (Ext.drew w1)
   have hb4:=(h4.obj (i:=2) U).2.1
   rw[aJ 0 _ hb4]
   have h5:St w M0 (w1.drew.setRow b [.int .u32 1,.int .i32 1,.int .u32 0,.map (some mb)].toArray) M' (.raw mb (AP .u8 l c):: .box pb [.pointer (some ⟨b,0,none⟩)] 131:: .box b [.int .u32 1,.int .i32 1,.int .u32 0,.map (some mb)] 104::Rs):=h4.RB (i:=2) U _
   have hb5:=(h5.obj (i:=2) U).2.1
   show St w M0 ((w1.drew.setRow b [.int .u32 1,.int .i32 1,.int .u32 0,.map (some mb)].toArray).setCell ⟨b,1,none⟩ (.int .i32 0)) M' _
   rw[aJ 1 _ hb5]
   have h6:St w M0 ((w1.drew.setRow b [.int .u32 1,.int .i32 1,.int .u32 0,.map (some mb)].toArray).setRow b [.int .u32 1,.int .i32 0,.int .u32 0,.map (some mb)].toArray) M' (.raw mb (AP .u8 l c):: .box pb [.pointer (some ⟨b,0,none⟩)] 131:: .box b [.int .u32 1,.int .i32 0,.int .u32 0,.map (some mb)] 104::Rs):=h5.RB (i:=2) U _
   exact(h6.front 1 U U).front 2 U U|>.front 1 U U
 ·have hb:=(hS.obj (i:=1) U).2.1
  refine(vP ⟨b,0,none⟩ 1 (by decide) _ wv (by rw[T0 hb];rfl)).mono ?_
  rintro e w' ⟨rfl,rfl⟩
  exact⟨_,rfl,mb,l,c,M,rfl,hM,hS,Mem.le.refl _⟩
end Go.Proofs.YtmjpjbmeamnfpaaGreatDoor
set_option maxRecDepth 100000
namespace Go.Proofs.YtmjpjbmeamnfpaaGreatDoor
open Go.Eng
theorem jG{w wv:World}{M0 M:Mem}{Rs:List HO}(b:Nat)(cs:List Value)(X:HO)(s:A1)(hS:St w M0 wv M (.box b cs 104::X::Rs))(hm:LX M cs X)(hg:Gl w)(h0:0<len s)(hb:len s<=1099511627776):
  Calls Tryz.prog 79 [(.pointer (some ⟨b,0,none⟩)),(str s)].toArray wv λ e w'=> ∃v,e= .returned v/\ ∃cs' X' M',v=str (BX s)/\LX M' cs' X'/\St w M0 w' M' (.box b cs' 104::X'::Rs)/\M.le M':=by
 refine CW.BN Tryz.func79 U Tryz.ntmps79 (Nat.le_of_ble_eq_true U) λ Q hE=>?_
 refine CW.weaken [0,1] (L':=[Y 0 (.pointer (some ⟨b,0,none⟩)),Y 1 (str s)]) ?_ U
 refine CW.sr ?_
 refine RL.box (v:=(.pointer (some ⟨b,0,none⟩))) hS (.t U) U (λ w1 b2 hS3=>?_)
 refine RL.u (.assign .c) U (RL.nil (CW.id ?_))
 refine CW.sr (RL.u (.BA (v:=(.pointer (some ⟨b,0,none⟩))) hS3 AX (i:=0) U (.t U) Tryz.isAgg131 U) U (RL.u (.I2 (.t U)) U (RL.u (.BR (q:=⟨b,0,none⟩) (.t U) (λ w=>by kernel_rfl)) U (RL.u (.makeFunc .nil (.cons (.t U) .nil)) U ?_))))
 replace hS3:St w M0 w1 M (.box b cs 104::X:: .box b2 [(.pointer (some ⟨b,0,none⟩))] 131::Rs):=(hS3.front 2 U U).front 2 U U
 replace hS3:St w M0 w1 M (.box b2 [(.pointer (some ⟨b,0,none⟩))] 131:: .box b cs 104::X::Rs):=hS3.front 2 U U
 refine RL.DS Tryz.call113 (.cons (.t U) (.cons (.t U) .nil)) (wT (Rs:=Rs) b2 b cs X hS3 (by assumption) hg) U ?_
 rintro v7 w8 ⟨mb4,ml5,mc6,M9,rfl,hMM_mb4,hS10,hle11⟩
 replace hS10:St w M0 w8 M9 (.box b2 [(.pointer (some ⟨b,0,none⟩))] 131:: .box b [(.int .u32 1),(.int .i32 0),(.int .u32 0),(.map (some mb4))] 104:: .raw mb4 (AP .u8 ml5 mc6)::Rs):=hS10
 refine RL.nil (CW.at [Y 1 (str s),Y 2 (.pointer (some ⟨b2,0,none⟩))] U (CW.seq (CW.seq ?_)))
 refine CW.OH hS10 MK (by decide+kernel) ?_
 refine RQ.v .none (.BA (v:=(.pointer (some ⟨b,0,none⟩))) hS10 (λ _ h=>h) (i:=0) U (.t U) Tryz.isAgg131 U) U ?_
 refine RQ.v .none (.I2 (.t U)) U ?_
 refine RQ.v .none (.BR (q:=⟨b,3,none⟩) (.t U) (λ w=>by kernel_rfl)) U ?_
 refine RQ.v .none (.BA (v:=(.map (some mb4))) hS10 (λ _ h=>h) (i:=1) U (.t U) Tryz.isAgg102 U) U ?_
 refine RQ.v .none (.move (.t U)) U ?_
 refine RQ.v .none (.C4 (.t U) .c Tryz.underlying9 (λ _=>by omega)) U ?_
 obtain⟨mv,hmv,hmsl⟩:=hMM_mb4 (A3 s 0)
 refine RQ.v .none (.lookup (k:=.u8) (v:=mv) hS10 (λ _ h=>h) (i:=2) U (.t U) (.t U) Tryz.underlying102 Tryz.underlying5 Tryz.zeroValue32 hmv) U ?_
 refine RQ.v .none (.PH hmsl (.t U) ⟨_,Tryz.underlying32⟩) U ?_
 refine RQ.v .none (.move .c) U ?_
 refine RQ.nil (λ a hs w12 hS13=>CW.at [Y 1 (str s),Y 18 mv,Y 19 (i64 (len (marksOf (A3 s 0)))),Y 20 (i64 0)] U ?_ a hs)
 refine CW.block ?_
 refine CW.loop (σ:=Int) (λ k=>[Y 1 (str s),Y 18 mv,Y 19 (i64 (len (marksOf (A3 s 0)))),Y 20 (i64 k)]) (λ k wl=>St w M0 wl M9 (.box b2 [(.pointer (some ⟨b,0,none⟩))] 131:: .box b [(.int .u32 1),(.int .i32 0),(.int .u32 0),(.map (some mb4))] 104:: .raw mb4 (AP .u8 ml5 mc6)::Rs)/\0<=k/\k<=len (marksOf (A3 s 0))/\KS s (marksOf (A3 s 0)) k) (λ k=>(len (marksOf (A3 s 0))-k).toNat) 0 [1,18,19,20] U ?_ ?_
 ·refine⟨hS13,?_⟩;exact⟨by omega,AA _,rfl⟩
 ·rintro k wl ⟨hS14,hk0,hk1,hN⟩
  have hll:=hmsl.le
  change len (marksOf (A3 s 0))<=9223372036854775807 at hll
  refine CW.sr (RL.u (.lss (.t U) (.t U)) U (RL.nil (CW.id (CW.seq ?_))))
  refine CW.cond rfl ?_ ?_<;>intro hb1<;>try simp only[zb]at hb1
  ·refine CW.skip (CW.id (CW.seq (CW.block (CW.sr ?_))))
   refine RL.u (.U8 hmsl (.t U) (.t U) Tryz.underlying32 Tryz.sizeOf9 (λ _=>by omega)) U (RL.u (.U6 (f:=B9) (i:=k) (j:=0) (u:=(str (A2 (marksOf (A3 s 0)) k))) hS14 AX hmsl DO (.t U) Tryz.isAgg9 (λ _=>by omega) U U) U (RL.a U U (RL.nil (CW.id ?_))))
   refine CW.sr (RL.m U U (RL.m U U ?_))
   refine RL.DC .none Tryz.call77 (.cons (.t U) (.cons (.t U) .nil)) (λ _=>(UH s (A2 (marksOf (A3 s 0)) k) _)) U ?_
   refine RL.nil (CW.at [Y 1 (str s),Y 6 (str (A2 (marksOf (A3 s 0)) k)),Y 18 mv,Y 19 (i64 (len (marksOf (A3 s 0)))),Y 20 (i64 k),Y 26 (.bool (Lib.hasPrefix s (A2 (marksOf (A3 s 0)) k)))] U ?_)
   refine CW.cond rfl ?_ ?_<;>intro hb2<;>try simp only[zb]at hb2
   ·refine CW.sr (RL.m U U (RL.a U U (RL.nil (CW.id (CW.ret (hE.r1 U U ?_))))))
    replace hS14:St w M0 wl M9 (.raw mb4 (AP .u8 ml5 mc6):: .box b [(.int .u32 1),(.int .i32 0),(.int .u32 0),(.map (some mb4))] 104::Rs):=(hS14.erase 0 U).front 1 U U
    replace hS14:St w M0 wl M9 (.box b [(.int .u32 1),(.int .i32 0),(.int .u32 0),(.map (some mb4))] 104:: .raw mb4 (AP .u8 ml5 mc6)::Rs):=hS14.front 1 U U
    have hq:BX s=A2 (marksOf (A3 s 0)) k:=by rw[jE,hN.found hk0 hb1 hb2]
    exact⟨_,rfl,_,_,_,by rw[hq],.inr ⟨_,_,_,rfl,rfl,hMM_mb4⟩,hS14,hle11⟩
   ·refine CW.skip (CW.id ?_)
    refine CW.region (RL.u (.add (.t U) .c (λ _=>by omega)) U (RL.m U U ?_))
    refine RL.nil λ a hs=>Exists.intro (k+1) ⟨hs.BG [1,18,19,20],?_,?_⟩
    ·refine⟨hS14,?_⟩
     exact⟨by omega,by omega,hN.step hk0 hb1 (by simpa using hb2)⟩
    ·show Int.toNat _<Int.toNat _;omega
  ·refine CW.exit (CW.at [] U ?_)
   refine CW.sr (RL.u (.assign .c) U (RL.nil (CW.id (CW.ret (hE.r1 U U ?_)))))
   replace hS14:St w M0 wl M9 (.raw mb4 (AP .u8 ml5 mc6):: .box b [(.int .u32 1),(.int .i32 0),(.int .u32 0),(.map (some mb4))] 104::Rs):=(hS14.erase 0 U).front 1 U U
   replace hS14:St w M0 wl M9 (.box b [(.int .u32 1),(.int .i32 0),(.int .u32 0),(.map (some mb4))] 104:: .raw mb4 (AP .u8 ml5 mc6)::Rs):=hS14.front 1 U U
   have hq:BX s=[]:=by rw[jE,hN.VT (by omega)]
   exact⟨_,rfl,_,_,_,by rw[hq],.inr ⟨_,_,_,rfl,rfl,hMM_mb4⟩,hS14,hle11⟩
end Go.Proofs.YtmjpjbmeamnfpaaGreatDoor
