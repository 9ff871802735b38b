/-
  Parts Toks Mark L1 L2 L3, put together and made short by wip/py/merge.py (mini.py).
-/
import Derived.Test.YtmjpjbmeamnfpaaGreatDoorZe13
import Derived.Test.YtmjpjbmeamnfpaaGreatDoorZe4
import Derived.Laws.BitsLemmas
import Derived.Test.YtmjpjbmeamnfpaaGreatDoorZe3
import Derived.Test.YtmjpjbmeamnfpaaGreatDoorProg
import Derived.Test.YtmjpjbmeamnfpaaGreatDoorZe0
set_option linter.unusedVariables false
set_option linter.unusedSimpArgs false
namespace Go.Eng
open Go.RowKit
theorem fT{t:A1}{i:Int}(h0:0<=i):JK t i=true↔ ¬t=[]/\ ∀j:Int,i<=j->j<len t->BN (A2 t j) (j==0)=true:=by
 by_cases hlt:i<len t
 ·have hc:(E4 (A2 t i)||i != 0&&C7 (A2 t i))=BN (A2 t i) (i==0):=rfl
  by_cases hw:BN (A2 t i) (i==0)=true
  ·rw[<-nO t i h0 hlt (by rw[hc];exact hw),fT (i:=i+1) (by omega)]
   refine and_congr_right λ _=>⟨λ h j h1 h2=>?_,λ h j h1 h2=>h j (by omega) h2⟩
   by_cases e:j=i
   ·subst e;exact hw
   ·exact h j (by omega) h2
  ·rw[nP t i h0 hlt (by rw[hc];exact hw)]
   exact⟨λ h=>(by cases h),λ h=>absurd (h.2 i (Int.le_refl _) hlt) hw⟩
 ·rw[nQ t i hlt,bne_iff_ne]
  exact Iff.intro (λ h=>And.intro h (λ j h1 h2=>by omega)) (λ h=>h.1)
termination_by (len t-i).toNat
theorem YM{t:A1}:NT t=true↔ ¬t=[]/\ ∀j:Int,0<=j->j<len t->BN (A2 t j) (j==0)=true:=fT (Int.le_refl 0)
def P6(s:A1)(i k:Int):Prop:= ∀j:Int,0<=j->j<k-i->BN (A2 s (i+j)) (j==0)=true
theorem P6.start (s:A1)(i:Int):P6 s i i:=λ j h0 h1=>by omega
theorem tV{s:A1}{i k:Int}(h0:0<=i)(h1:i<=k)(h2:k<len s)(ha:P6 s i k):NT (Eng.sub s i (k+1))=BN (A2 s k) (k-i==0):=by
 have hl:=FX (s:=s) (i:=i) (j:=k+1) h0 (by omega) (by omega)
 rw[Bool.eq_iff_iff,YM]
 constructor
 ·rintro⟨_,h⟩
  have:=h (k-i) (by omega) (by omega)
  rw[P3 h0 (by omega) (by omega) (by omega),show i+(k-i)=k from by omega]at this
  exact this
 ·intro h
  refine⟨λ e=>by rw[e,len_nil]at hl;omega,λ j h3 h4=>?_⟩
  rw[P3 h0 h3 (by omega) (by omega)]
  by_cases e:j=k-i
  ·subst e;rw[show i+(k-i)=k from by omega];exact h
  ·exact ha j h3 (by omega)
theorem P6.step {s:A1}{i k:Int}(h0:0<=i)(h1:i<=k)(h2:k<len s)(ha:P6 s i k)(h:NT (Eng.sub s i (k+1))=true):P6 s i (k+1):=by
 rw[tV h0 h1 h2 ha]at h
 intro j h3 h4
 by_cases e:j=k-i
 ·subst e;rw[show i+(k-i)=k from by omega];exact h
 ·exact ha j h3 (by omega)
theorem tW{α:Type}(s:List α)(i j:Int)(h0:0<=i)(h1:0<=j):Eng.sub (A3 s i) 0 j=Eng.sub s i (i+j):=by
 unfold Eng.sub A3
 simp only[Int.toNat_zero,List.drop_zero,Nat.sub_zero]
 congr 1;omega
theorem tX: ∀n:Fin 256,I7 (UInt8.ofNat n.val)=decide ((48<=n.val/\n.val<=57)\/n.val=43\/n.val=45\/n.val=46\/n.val=101\/n.val=69):=by decide+kernel
theorem fU(b:UInt8):I7 b=true↔(48<=b.toNat/\b.toNat<=57)\/b.toNat=43\/b.toNat=45\/b.toNat=46\/b.toNat=101\/b.toNat=69:=by
 have:=tX ⟨b.toNat,b.toNat_lt⟩
 simp only[UInt8.ofNat_toNat]at this
 rw[this,decide_eq_true_eq]
theorem fV{s:A1}{i:Int}{t:A1}(h0:0<=i)(h1:i<=len s):TY s i t=Lib.hasPrefix (A3 s i) t:=by
 have hl:=CN s i h0 h1
 have ht:=A8 t
 rw[<-Lib.hasPrefix_of_take]
 unfold TY
 have e:Eng.sub s i (i+len t)=(A3 s i).take t.length:=by
  unfold Eng.sub A3;congr 1;unfold len;omega
 rw[e]
 congr 1
 rw[Bool.eq_iff_iff,decide_eq_true_eq,decide_eq_true_eq]
 unfold len at*;omega
def IE(s:A1)(i k:Int):Prop:=(Eng.sub AD 0 k).find? (λ m=>Lib.hasPrefix (A3 s i) m)=none
theorem IE.start (s:A1)(i:Int):IE s i 0:=rfl
theorem IE.step {s:A1}{i k:Int}(h:IE s i k)(h0:0<=i)(h1:i<=len s)(hk0:0<=k)(hk1:k<17)(h2:TY s i (at' AD k)=false):IE s i (k+1):=by
 unfold IE at*
 rw[sub_succ AD k hk0 hk1,List.find?_append,h]
 rw[fV h0 h1]at h2
 rw[Option.none_or,List.find?_cons,show AD.getD k.toNat default=at' AD k from rfl,h2];rfl
theorem IE.found {s:A1}{i k:Int}(h:IE s i k)(h0:0<=i)(h1:i<=len s)(hk0:0<=k)(hk1:k<17)(h2:TY s i (at' AD k)=true):BK (A3 s i)=at' AD k:=by
 unfold IE at h
 rw[fV h0 h1]at h2
 have e:AD=Eng.sub AD 0 k++A3 AD k:=by
  have:=YL AD 0 k (Int.le_refl _) hk0
  exact this
 have hk:k.toNat<AD.length:=by show k.toNat<17;omega
 have e2:A3 AD k=at' AD k::A3 AD (k+1):=by
  unfold A3 at'
  rw[show(k+1).toNat=k.toNat+1 from by omega,List.drop_eq_getElem_cons hk]
  simp[hk]
 have e3:AD.find? (λ m=>Lib.hasPrefix (A3 s i) m)=some (at' AD k):=by
  conv=>lhs;rw[e]
  rw[List.find?_append,h,e2,List.find?_cons,h2];rfl
 unfold BK;rw[e3];rfl
theorem IE.UI {s:A1}{i k:Int}(h:IE s i k)(hk:17<=k):BK (A3 s i)=[]:=by
 unfold IE at h
 rw[JM AD k (by show(17:Int)<=k;omega)]at h
 unfold BK;rw[h];rfl
theorem tY{k:Int}(hk0:0<=k)(hk1:k<17):1<=len (at' AD k)/\len (at' AD k)<=2:=by
 have:k=0\/k=1\/k=2\/k=3\/k=4\/k=5\/k=6\/k=7\/k=8\/k=9\/k=10\/k=11\/k=12\/k=13\/k=14\/k=15\/k=16:=by omega
 rcases this with rfl|rfl|rfl|rfl|rfl|rfl|rfl|rfl|rfl|rfl|rfl|rfl|rfl|rfl|rfl|rfl|rfl<;>decide
section tok
variable {s:A1} {i:Int}
end tok
theorem tZ{s:A1}(h1:0<len s)(h:A2 s 0=45\/C7 (A2 s 0)=true):1<=len (runN s):=by
 rw[Y0]
 cases s with
 |nil=>exact absurd h1 (by decide)
 |cons b l=>
  have hb:I7 b=true:=by
   rw[fU]
   have e:A2 (b::l) 0=(b.toNat:Int):=rfl
   rw[e]at h
   unfold C7 at h
   simp only[Bool.and_eq_true,decide_eq_true_eq]at h
   omega
  rw[List.takeWhile_cons,hb]
  simp[len];omega
theorem fW{s:A1}(h1:0<len s):0<=(A7 s).2.1/\(A7 s).2.1<=len s/\((A7 s).2.2=0->1<=(A7 s).2.1)/\((A7 s).2.2=0\/(A7 s).2.2=1\/(A7 s).2.2=2\/(A7 s).2.2=4):=by
 have hf:=CN s 1 (by omega) (by omega)
 have hw1:=QP (A3 s 1)
 have hw0:=QP s
 have hu1:=KG (A3 s 1)
 have hu0:=KG s
 have hr:=tQ (runN s)
 have hrl:len (runN s)<=len s:=by unfold runN;exact(QK _ _ _).2
 have hrl0:=A8 (runN s)
 unfold A7
 split
 ·exact⟨by dsimp only;omega,by dsimp only;omega,λ _=>by dsimp only;omega,.inl U⟩
 ·split
  ·refine⟨by dsimp only;omega,by dsimp only;omega,λ _=>by dsimp only;omega,?_⟩
   dsimp only;omega
  ·split
   ·rename_i hm
    have hp:len (BK s)<=len s:=by
     rcases MW s with h|h
     ·exact absurd h hm
     ·exact U5 h.2
    have:=JG hm
    exact⟨by dsimp only;omega,by dsimp only;omega,λ _=>by dsimp only;omega,.inl U⟩
   ·split
    ·rename_i hn
     have:=JG hn
     exact⟨by dsimp only;omega,by dsimp only;omega,λ _=>by dsimp only;omega,.inl U⟩
    ·split
     ·refine⟨by dsimp only;omega,by dsimp only;omega,λ h=>by dsimp only at h ⊢;omega,?_⟩
      dsimp only;omega
     ·split
      ·rename_i hd
       have hp:=tZ h1 hd
       split
       ·rename_i he
        exact⟨by dsimp only;omega,by dsimp only;omega,λ h=>absurd h he,by dsimp only;omega⟩
       ·exact⟨by dsimp only;omega,by dsimp only;omega,λ h=>by dsimp only;omega,.inl U⟩
      ·exact⟨Int.le_refl _,by dsimp only;omega,λ h=>absurd h (by decide),.inr (.inl U)⟩
def YN(t:Tk):Prop:=len t.s<=1048576/\len t.c.s<=1048576/\(t.kind=5-> -1000000<=t.c.e/\t.c.e<=1000000)
theorem u0(r:Int):0<=len (J2 r)/\len (J2 r)<=6:=by
 have:=Lib.encodeRuneZ_length r
 unfold J2
 split
 ·simp only[AK,len_nil];omega
 ·split
  ·simp only[AK,len_nil];omega
  ·unfold Lib.encodeRune len;rw[List.length_map];omega
theorem fX(s:A1)(i:Int)(h0:0<=i)(h1:i<=len s):len (J3 s i)<=6*(len s-i):=by
 by_cases h:i<len s
 ·have hb:=QQ h0 h
  have ih:=fX s (i+runeLen s i) (by omega) (by omega)
  have:=u0 (AQ s i)
  rw[TW h0 h,AG];omega
 ·rw[eI h,len_nil];omega
termination_by (len s-i).toNat
decreasing_by have hb:=QQ h0 h;omega
theorem fY(s:A1):2<=len (A4 s)/\len (A4 s)<=6*len s+2:=by
 have:=fX s 0 (Int.le_refl 0) (A8 s)
 have h0:=A8 (J3 s 0)
 unfold A4
 rw[AG,AK,AK,len_nil];omega
end Go.Eng
namespace Go.Eng
open Go.RowKit
def marksOf(c:Int):List A1:=AD.filter (λ m=>A2 m 0==c)
def KO(M:Mem)(l:List KV):Prop:= ∀c:Int,∃v,(BD l c).getD (.slice none 0 0)=v/\Sl M 1 (marksOf c).length v ((marksOf c).flatMap AW)
abbrev MG:=List (KV×List A1)
def fZ(e:TypeId)(p:KV×List A1):HO:=.own e 1 p.1.val p.2.length (p.2.flatMap AW)
def J7(e:TypeId)(G:MG):List HO:=G.map (fZ e)
def rowOf:MG->Int->List A1
 |[],_=>[]
 |p::G,c=>if c=p.1.key then p.2 else rowOf G c
def LR(k:Int)(G:MG):Prop:= ∀c,rowOf G c=(Eng.sub AD 0 k).filter (λ m=>A2 m 0==c)
theorem LR.start:LR 0 []:=λ _=>rfl
def YO(e:TypeId)(G:MG)(c:Int)(v:Value)(xs:List A1)(R:List HO):Prop:=
 (∃G1 p G2,G=G1++p::G2/\p.1.key=c/\(∀q∈G1,q.1.key≠c)/\v=p.1.val/\xs=p.2/\R=J7 e (G1++G2))\/
 ((∀q∈G,q.1.key≠c)/\v= .slice none 0 0/\xs=[]/\R=J7 e G)
theorem YP(c:Int): ∀G:MG,(∃G1 p G2,G=G1++p::G2/\p.1.key=c/\(∀q∈G1,q.1.key≠c))\/(∀q∈G,q.1.key≠c)
 |[]=>.inr λ _ h=>by cases h
 |p::G=>by
  by_cases h:p.1.key=c
  ·exact .inl ⟨[],p,G,rfl,h,λ _ h=>by cases h⟩
  ·rcases YP c G with⟨G1,q,G2,h1,h2,h3⟩|h1
   ·refine .inl ⟨p::G1,q,G2,by rw[h1];rfl,h2,λ r hr=>?_⟩
    rcases List.mem_cons.1 hr with rfl|hr
    ·exact h
    ·exact h3 r hr
   ·refine .inr λ r hr=>?_
    rcases List.mem_cons.1 hr with rfl|hr
    ·exact h
    ·exact h1 r hr
theorem YQ{c:Int}: ∀(G1:MG) (p:KV×List A1) (G2:MG),p.1.key=c->(∀q∈G1,q.1.key≠c)->BD ((G1++p::G2).map Prod.fst) c=some p.1.val
 |[],p,G2,h,_=>by simp[BD,h]
 |q::G1,p,G2,h,h2=>by
  have: ¬c=q.1.key:=λ e=>h2 q (by simp) e.symm
  simp only[List.cons_append,List.map_cons,BD,beq_iff_eq,this,if_false]
  exact YQ G1 p G2 h (λ r hr=>h2 r (by simp[hr]))
theorem YR{c:Int}: ∀G:MG,(∀q∈G,q.1.key≠c)->BD (G.map Prod.fst) c=none
 |[],_=>rfl
 |q::G,h=>by
  have: ¬c=q.1.key:=λ e=>h q (by simp) e.symm
  simp only[List.map_cons,BD,beq_iff_eq,this,if_false]
  exact YR G (λ r hr=>h r (by simp[hr]))
theorem gA{c:Int}(v:Value): ∀(G1:MG) (p:KV×List A1) (G2:MG),p.1.key=c->(∀q∈G1,q.1.key≠c)->GA ((G1++p::G2).map Prod.fst) c v=some ((G1.map Prod.fst)++⟨c,v,p.1.born⟩::G2.map Prod.fst)
 |[],p,G2,h,_=>by simp[GA,h]
 |q::G1,p,G2,h,h2=>by
  have: ¬c=q.1.key:=λ e=>h2 q (by simp) e.symm
  simp only[List.cons_append,List.map_cons,GA,beq_iff_eq,this,if_false]
  have ih:=gA v G1 p G2 h (λ r hr=>h2 r (by simp[hr]))
  rw[ih];rfl
theorem gB{c:Int}(v:Value): ∀G:MG,(∀q∈G,q.1.key≠c)->GA (G.map Prod.fst) c v=none
 |[],_=>rfl
 |q::G,h=>by
  have: ¬c=q.1.key:=λ e=>h q (by simp) e.symm
  simp only[List.map_cons,GA,beq_iff_eq,this,if_false]
  rw[gB v G (λ r hr=>h r (by simp[hr]))];rfl
theorem P7{c:Int}: ∀(G1:MG) (p:KV×List A1) (G2:MG),(∀q∈G1,q.1.key≠p.1.key)->rowOf (G1++p::G2) c=if c=p.1.key then p.2 else rowOf (G1++G2) c
 |[],p,G2,_=>rfl
 |q::G1,p,G2,h=>by
  have ih:=P7 (c:=c) G1 p G2 (λ r hr=>h r (by simp[hr]))
  have hq:=h q (by simp)
  simp only[List.cons_append,rowOf]
  by_cases e:c=q.1.key
  ·rw[if_pos e,if_neg (λ e2=>hq (by rw[<-e,e2])),if_pos e]
  ·rw[if_neg e,ih,if_neg e]
theorem u4{c:Int}: ∀(G:MG) (p:KV×List A1),(∀q∈G,q.1.key≠p.1.key)->rowOf (G++[p]) c=if c=p.1.key then p.2 else rowOf G c:=by
 intro G p h
 have:=P7 (c:=c) G p [] h
 rw[List.append_nil]at this;exact this
theorem YS{c:Int}: ∀G:MG,(∀q∈G,q.1.key≠c)->rowOf G c=[]
 |[],_=>rfl
 |q::G,h=>by
  rw[rowOf,if_neg (λ e=>h q (by simp) e.symm)]
  exact YS G (λ r hr=>h r (by simp[hr]))
theorem u5{e:TypeId}{G:MG}{c k:Int}{v:Value}{xs:List A1}{R:List HO}(h:YO e G c v xs R)(hG:LR k G)(h0:0<=k):len xs<=17:=by
 rcases h with⟨G1,p,G2,rfl,h2,h3,rfl,rfl,rfl⟩|⟨_,_,rfl,_⟩
 ·have:=hG c
  rw[P7 G1 p G2 (by rw[h2];exact h3),if_pos h2.symm]at this
  rw[this]
  have h4:=List.length_filter_le (λ m=>A2 m 0==c) (Eng.sub AD 0 k)
  have h5:=(QK AD 0 k).2
  have h6:len AD=17:=rfl
  unfold len at*;omega
 ·decide
section
variable {w0 w:World} {M0 M:Mem} {A B C:HO} {e:TypeId} {Rs:List HO}
theorem u6{G:MG}(c:Int)(hS:St w0 M0 w M (A::B::C::(J7 e G++Rs))): ∃v xs R,YO e G c v xs R/\(BD (G.map Prod.fst) c).getD (.slice none 0 0)=v/\St w0 M0 w M (A::B::C:: .own e 1 v xs.length (xs.flatMap AW)::(R++Rs)):=by
 rcases YP c G with⟨G1,p,G2,h1,h2,h3⟩|h1
 ·refine⟨_,_,_,.inl ⟨G1,p,G2,h1,h2,h3,rfl,rfl,rfl⟩,by rw[h1,YQ G1 p G2 h2 h3];rfl,?_⟩
  refine hS.perm ?_
  refine .cons _ (.cons _ (.cons _ ?_))
  subst h1
  unfold J7
  rw[List.map_append,List.map_append,List.map_cons,List.append_assoc,List.append_assoc,List.cons_append]
  exact List.perm_middle.symm
 ·refine⟨_,_,_,.inr ⟨h1,rfl,rfl,rfl⟩,by rw[YR G h1];rfl,?_⟩
  have:=hS.IM e 1
  refine this.perm ?_
  exact List.perm_middle (l₁:=[A,B,C])
theorem u7{G:MG}{c:Int}{v:Value}{xs:List A1}{R:List HO}(clk:Nat)(h:YO e G c v xs R)(x:A1)(v':Value): ∃G',EM (G.map Prod.fst) clk c v'=G'.map Prod.fst/\
  (∀ {w:World} {M:Mem},St w0 M0 w M (A::B::C:: .own e 1 v' (xs++[x]).length ((xs++[x]).flatMap AW)::(R++Rs))->St w0 M0 w M (A::B::C::(J7 e G'++Rs)))/\
  ∀ {k:Int},0<=k->k<17->x=at' AD k->c=A2 x 0->LR k G->LR (k+1) G':=by
 have hf: ∀ {k:Int},0<=k->k<17->x=at' AD k-> ∀c',(Eng.sub AD 0 (k+1)).filter (λ m=>A2 m 0==c')=(Eng.sub AD 0 k).filter (λ m=>A2 m 0==c')++if A2 x 0=c' then [x]else []:=by
  intro k h0 h1 hx c'
  rw[sub_succ AD k h0 h1,List.filter_append,show AD.getD k.toNat default=x from hx.symm]
  congr 1
  by_cases e:A2 x 0=c'<;>simp[e]
 rcases h with⟨G1,p,G2,rfl,h2,h3,rfl,rfl,rfl⟩|⟨h1,rfl,rfl,rfl⟩
 ·refine⟨G1++(⟨c,v',p.1.born⟩,p.2++[x])::G2,?_,λ hS=>?_,λ h0 hk hx hc hG c'=>?_⟩
  ·unfold EM;rw[gA v' G1 p G2 h2 h3];simp
  ·refine hS.perm (.cons _ (.cons _ (.cons _ ?_)))
   unfold J7
   rw[List.map_append,List.map_append,List.map_cons,List.append_assoc,List.append_assoc,List.cons_append]
   exact List.perm_middle
  ·have:=hG c'
   rw[P7 G1 p G2 (by rw[h2];exact h3)]at this
   rw[P7 G1 (⟨c,v',p.1.born⟩,p.2++[x]) G2 h3,hf h0 hk hx,<-this,h2]
   dsimp only
   rw[<-hc]
   by_cases e:c'=c
   ·rw[if_pos e,if_pos e,if_pos e.symm]
   ·rw[if_neg e,if_neg e,if_neg (λ e2=>e e2.symm),List.append_nil]
 ·refine⟨G++[(⟨c,v',clk⟩,[x])],?_,λ hS=>?_,λ h0 hk hx hc hG c'=>?_⟩
  ·unfold EM;rw[gB v' G h1];simp
  ·refine hS.perm (.cons _ (.cons _ (.cons _ ?_)))
   unfold J7
   rw[List.map_append,List.append_assoc]
   exact List.perm_middle
  ·have:=hG c'
   rw[u4 G _ h1,hf h0 hk hx,<-this]
   dsimp only
   rw[<-hc]
   by_cases e:c'=c
   ·rw[if_pos e,if_pos e.symm,e,YS G h1];rfl
   ·rw[if_neg e,if_neg (λ e2=>e e2.symm),List.append_nil]
theorem uA{G:MG}(hS:St w0 M0 w M (A::B::C::(J7 e G++Rs)))(hG:LR 17 G):KO M (G.map Prod.fst)/\St w0 M0 w M (A::B::C::Rs):=by
 refine⟨λ c=>?_,hS.drop _ (.cons_cons _ (.cons_cons _ (.cons_cons _ (List.sublist_append_right _ _))))⟩
 have hc:=hG c
 rw[JM AD 17 (Int.le_refl _)]at hc
 have hm:marksOf c=rowOf G c:=hc.symm
 rw[hm]
 rcases YP c G with⟨G1,p,G2,h1,h2,h3⟩|h1
 ·refine⟨_,by rw[h1,YQ G1 p G2 h2 h3],?_⟩
  rw[h1,P7 G1 p G2 (by rw[h2];exact h3),if_pos h2.symm]
  have hmem:fZ e p∈(A::B::C::(J7 e G++Rs)):=by
   rw[h1];unfold J7;simp
  obtain⟨i,hi⟩:=List.getElem?_of_mem hmem
  exact hS.sl (i:=i) hi
 ·refine⟨_,by rw[YR G h1],?_⟩
  rw[YS G h1];exact Sl.nil _ 1
end
theorem find_congr{α:Type}{p q:α->Bool}: ∀ {l:List α},(∀x∈l,p x=q x)->l.find? p=l.find? q
 |[],_=>rfl
 |a::l,h=>by
  rw[List.find?_cons,List.find?_cons,h a (by simp),find_congr (λ x hx=>h x (by simp[hx]))]
theorem uB{m:A1}(hm:m∈AD): ¬m=[]:=by
 simp only[AD,List.mem_cons,List.not_mem_nil,or_false]at hm
 rcases hm with rfl|rfl|rfl|rfl|rfl|rfl|rfl|rfl|rfl|rfl|rfl|rfl|rfl|rfl|rfl|rfl|rfl<;>simp
theorem uC{s m:A1}(h:Lib.hasPrefix s m=true)(hm: ¬m=[]):A2 m 0=A2 s 0:=by
 cases m with
 |nil=>exact absurd U hm
 |cons a m=>
  cases s with
  |nil=>simp[Lib.hasPrefix]at h
  |cons b s=>
   simp only[Lib.hasPrefix,List.isPrefixOf,Bool.and_eq_true,beq_iff_eq]at h
   rw[h.1];rfl
theorem gC(s:A1):BK s=((marksOf (A2 s 0)).find? (λ m=>Lib.hasPrefix s m)).getD []:=by
 unfold BK marksOf
 rw[List.find?_filter]
 congr 1
 refine find_congr λ m hm=>?_
 cases hp:Lib.hasPrefix s m with
 |false=>simp
 |true=>simp[uC hp (uB hm)]
def J8(s:A1)(L:List A1)(k:Int):Prop:=(Eng.sub L 0 k).find? (λ m=>Lib.hasPrefix s m)=none
theorem J8.step {s:A1}{L:List A1}{k:Int}(h:J8 s L k)(h0:0<=k)(h1:k<len L)(h2:Lib.hasPrefix s (at' L k)=false):J8 s L (k+1):=by
 unfold J8 at*
 rw[sub_succ L k h0 h1,List.find?_append,h,Option.none_or,List.find?_cons,show L.getD k.toNat default=at' L k from rfl,h2];rfl
theorem J8.found {s:A1}{L:List A1}{k:Int}(h:J8 s L k)(h0:0<=k)(h1:k<len L)(h2:Lib.hasPrefix s (at' L k)=true):(L.find? (λ m=>Lib.hasPrefix s m)).getD []=at' L k:=by
 unfold J8 at h
 have e:L=Eng.sub L 0 k++A3 L k:=YL L 0 k (Int.le_refl _) h0
 have hk:k.toNat<L.length:=by unfold len at h1;omega
 have e2:A3 L k=at' L k::A3 L (k+1):=by
  unfold A3 at'
  rw[show(k+1).toNat=k.toNat+1 from by omega,List.drop_eq_getElem_cons hk]
  simp[hk]
 have e3:L.find? (λ m=>Lib.hasPrefix s m)=some (at' L k):=by
  conv=>lhs;rw[e]
  rw[List.find?_append,h,e2,List.find?_cons,h2];rfl
 rw[e3];rfl
theorem J8.UI {s:A1}{L:List A1}{k:Int}(h:J8 s L k)(hk:len L<=k):(L.find? (λ m=>Lib.hasPrefix s m)).getD []=[]:=by
 unfold J8 at h
 rw[JM L k hk]at h;rw[h];rfl
end Go.Eng
set_option maxRecDepth 100000
namespace Go.Proofs.YtmjpjbmeamnfpaaGreatDoor
open Go.Eng
theorem gD:Lib.fields [61,61,32,33,61,32,60,61,32,62,61,32,46,32,124,32,44,32,58,32,40,32,41,32,91,32,93,32,123,32,125,32,60,32,62,32,63]=AD:=by decide+kernel
theorem uD(M:Mem)(w:World)(hM:Sat w M)(hg:Gl w):Calls Tryz.prog 115 [str [61,61,32,33,61,32,60,61,32,62,61,32,46,32,124,32,44,32,58,32,40,32,41,32,91,32,93,32,123,32,125,32,60,32,62,32,63]].toArray w λ e w'=> ∃v M',e= .returned v/\Sl M' 1 AD.length v (AD.flatMap AW)/\Grow w M w' M':=by
 have:=oT M [61,61,32,33,61,32,60,61,32,62,61,32,46,32,124,32,44,32,58,32,40,32,41,32,91,32,93,32,123,32,125,32,60,32,62,32,63] w hM hg (by decide) (oS (by decide)) (by rw[gD];decide)
 rw[gD]at this
 exact this
theorem uE{w wv:World}{M0 M:Mem}{Rs:List HO}(pb b:Nat)(hS:St w M0 wv M (.box pb [(.pointer (some ⟨b,0,none⟩))] 131:: .box b [(.int .u32 0),(.int .i32 1),(.int .u32 0),(.map none)] 104::Rs))(hg:Gl w):
  Calls Tryz.prog 114 [(.pointer (some ⟨pb,0,none⟩))].toArray wv λ e w'=> ∃v,e= .returned v/\ ∃mb l c M',v= .tuple #[]/\KO M' l/\St w M0 w' M' (.raw mb (AI .u8 l c):: .box pb [.pointer (some ⟨b,0,none⟩)] 131:: .box b [.int .u32 0,.int .i32 1,.int .u32 0,.map (some mb)] 104::Rs)/\M.le M':=by
 refine CW.C4 Tryz.func114 U Tryz.ntmps114 (Nat.le_of_ble_eq_true U) λ Q hE=>?_
 have hm17:len AD=17:=rfl
 refine CW.weaken [0] (L':=[Y 0 (.pointer (some ⟨pb,0,none⟩))]) ?_ U
 refine CW.sr (RL.u (.D8 (v:=(.pointer (some ⟨b,0,none⟩))) hS BG (i:=0) U (.t U) Tryz.isAgg131 U) U ?_)
 refine RL.makeMap .u8 hS U (λ w1 b2 hS3=>?_)
 replace hS3:St w M0 w1 M (.raw b2 (AI .u8 [] 0):: .box pb [(.pointer (some ⟨b,0,none⟩))] 131:: .box b [(.int .u32 0),(.int .i32 1),(.int .u32 0),(.map none)] 104::Rs):=hS3
 refine RL.u (.GS (.t U)) U (RL.u (.FQ (q:=⟨b,3,none⟩) (.t U) (λ w=>by kernel_rfl)) U ?_)
 refine RL.st hS3 (i:=2) U (.t U) (.t U) Tryz.sizeOf102 U U U U U (λ w4 hS5=>(RL.nil (CW.id ?_)))
 refine CW.sr ?_
 refine RL.nC hS5 Tryz.call115 (.cons .c .nil) ((uD M _ hS5.sat (hg.low hS5.low))) U ?_
 rintro v6 w7 M8 hS9 hle10 hsl_v6
 refine RL.u (.NO hsl_v6 (.t U) ⟨_,Tryz.underlying32⟩) U (RL.u (.move .c) U ?_)
 refine RL.nil (CW.at [Y 0 (.pointer (some ⟨pb,0,none⟩)),Y 7 v6,Y 8 (i64 (len AD)),Y 9 (i64 0)] U (CW.block ?_))
 refine CW.loop (σ:=Int×MG×Nat×Mem) (λ(k,G,clk,Ml)=>[Y 0 (.pointer (some ⟨pb,0,none⟩)),Y 7 v6,Y 8 (i64 (len AD)),Y 9 (i64 k)]) (λ(k,G,clk,Ml) wl=>St w M0 wl Ml (.raw b2 (AI .u8 (G.map Prod.fst) clk):: .box pb [(.pointer (some ⟨b,0,none⟩))] 131:: .box b [(.int .u32 0),(.int .i32 1),(.int .u32 0),(.map (some b2))] 104::(J7 9 G++Rs))/\Sl Ml 1 AD.length v6 (AD.flatMap AW)/\0<=k/\k<=17/\LR k G/\M.le Ml) (λ(k,G,clk,Ml)=>(17-k).toNat) ((0,[],0,M8)) [0,7,8,9] U ?_ ?_
 ·refine⟨hS9,hsl_v6,?_⟩;exact⟨by omega,by omega,LR.start,hle10⟩
 ·rintro⟨k,G,clk,Ml⟩ wl ⟨hS12,hsl_v6,h0,h1,hG,hMl⟩
  have hml:=λ h=>tY h0 (k:=k) h
  refine CW.sr (RL.u (.lss (.t U) (.t U)) U (RL.nil (CW.id (CW.seq ?_))))
  refine CW.cond rfl ?_ ?_<;>intro hb1<;>try simp only[zb]at hb1
  ·refine CW.skip (CW.id (CW.seq (CW.block (CW.sr ?_))))
   refine RL.u (.SO hsl_v6 (.t U) (.t U) Tryz.underlying32 Tryz.sizeOf9 (λ _=>by first|omega)) U (RL.u (.SL (f:=AW) (i:=k) (j:=0) (u:=(str (at' AD k))) hS12 BG hsl_v6 DN (.t U) Tryz.isAgg9 (λ _=>by first|omega) U U) U (RL.a U U (RL.nil (CW.id ?_))))
   obtain⟨vx13,xs14,R15,hO16,hget17,hS18⟩:=u6 (A2 (at' AD k) 0) hS12
   replace hS18:St w M0 wl Ml (.raw b2 (AI .u8 (G.map Prod.fst) clk):: .box pb [(.pointer (some ⟨b,0,none⟩))] 131:: .box b [(.int .u32 0),(.int .i32 1),(.int .u32 0),(.map (some b2))] 104:: .own 9 1 vx13 xs14.length (xs14.flatMap AW)::(R15++Rs)):=hS18
   have hxl:=u5 hO16 hG h0
   refine CW.weaken [0,2,7,8,9] (L':=[Y 0 (.pointer (some ⟨pb,0,none⟩)),Y 2 (str (at' AD k)),Y 7 v6,Y 8 (i64 (len AD)),Y 9 (i64 k)]) ?_ U
   replace hS18:St w M0 wl Ml (.box pb [(.pointer (some ⟨b,0,none⟩))] 131:: .box b [(.int .u32 0),(.int .i32 1),(.int .u32 0),(.map (some b2))] 104:: .raw b2 (AI .u8 (G.map Prod.fst) clk):: .own 9 1 vx13 xs14.length (xs14.flatMap AW)::(R15++Rs)):=(hS18.front 2 U U).front 2 U U
   replace hS18:St w M0 wl Ml (.raw b2 (AI .u8 (G.map Prod.fst) clk):: .box pb [(.pointer (some ⟨b,0,none⟩))] 131:: .box b [(.int .u32 0),(.int .i32 1),(.int .u32 0),(.map (some b2))] 104:: .own 9 1 vx13 xs14.length (xs14.flatMap AW)::(R15++Rs)):=hS18.front 2 U U
   refine CW.oE (HsQ:=[.raw b2 (AI .u8 (G.map Prod.fst) clk),.box pb [(.pointer (some ⟨b,0,none⟩))] 131,.box b [(.int .u32 0),(.int .i32 1),(.int .u32 0),(.map (some b2))] 104]) 16 [.is true (.pointer (some ⟨b,0,none⟩)),.is true (.pointer (some ⟨b,0,none⟩)),.is true (.pointer (some ⟨b,3,none⟩)),.is true (.map (some b2)),.is true (str (at' AD k)),.is true (.int .u8 (A2 (at' AD k) 0)),.is true (.pointer (some ⟨b,0,none⟩)),.is true (.pointer (some ⟨b,0,none⟩)),.is true (.pointer (some ⟨b,3,none⟩)),.is true (.map (some b2)),.is true (str (at' AD k)),.is true (.int .u8 (A2 (at' AD k) 0)),.is true vx13,.is true (str (at' AD k)),.any,.any,.any] [(27,.eq λ vz=>(.own 9 1 vz (([at' AD k]:List A1)).length ((([at' AD k]:List A1)).flatMap AW):: .own 9 1 vx13 xs14.length (xs14.flatMap AW)::(R15++Rs))),(28,.eq λ vz=>(.own 9 1 vz (xs14++[at' AD k]).length ((xs14++[at' AD k]).flatMap AW)::(R15++Rs)))] (.own 9 1 vx13 xs14.length (xs14.flatMap AW)::(R15++Rs)) [none,none,none,none,none,none,none,none,none,none,none,none,none,none,some 0,some 1] hS18 PW [0,2,7,8,9] U (by decide+kernel) (by decide+kernel) U U (by decide+kernel) (by decide+kernel) [27,28] U (by decide+kernel) (.cons ?_ (.cons ?_ (.cons ?_ (.cons ?_ (.cons ?_ (.cons ?_ (.cons ?_ (.cons ?_ (.cons ?_ (.cons ?_ (.cons ?_ (.cons ?_ (.cons ?_ (.cons ?_ (.cons ?_ (.cons ?_ (.cons ?_ (.nil))))))))))))))))))
   ·intro LL w19 M20 X hle22 hS21 hK hD
    replace hsl_v6:=hsl_v6.mono hle22
    replace hS21:St w M0 w19 M20 (.raw b2 (AI .u8 (G.map Prod.fst) clk):: .box pb [(.pointer (some ⟨b,0,none⟩))] 131:: .box b [(.int .u32 0),(.int .i32 1),(.int .u32 0),(.map (some b2))] 104::X):=hS21
    refine RL.u (.D8 (v:=(.pointer (some ⟨b,0,none⟩))) hS21 BG (i:=1) U (.t (hK _ _ U)) Tryz.isAgg131 U) U ?_
    exact RL.nil (RA.next λ a hs=>⟨_,_,Mem.le.refl _,hS21,hs,_,_,rfl,rfl,rfl⟩)
   ·intro LL w23 M24 X hle26 hS25 hK hD
    replace hsl_v6:=hsl_v6.mono hle26
    replace hS25:St w M0 w23 M24 (.raw b2 (AI .u8 (G.map Prod.fst) clk):: .box pb [(.pointer (some ⟨b,0,none⟩))] 131:: .box b [(.int .u32 0),(.int .i32 1),(.int .u32 0),(.map (some b2))] 104::X):=hS25
    obtain⟨g13,v13,hl13,rfl,rfl⟩:=hD 0 (by decide+kernel)
    refine RL.u (.GS (.t hl13)) U ?_
    exact RL.nil (RA.next λ a hs=>⟨_,_,Mem.le.refl _,hS25,hs,_,_,rfl,rfl,rfl⟩)
   ·intro LL w27 M28 X hle30 hS29 hK hD
    replace hsl_v6:=hsl_v6.mono hle30
    replace hS29:St w M0 w27 M28 (.raw b2 (AI .u8 (G.map Prod.fst) clk):: .box pb [(.pointer (some ⟨b,0,none⟩))] 131:: .box b [(.int .u32 0),(.int .i32 1),(.int .u32 0),(.map (some b2))] 104::X):=hS29
    obtain⟨g14,v14,hl14,rfl,rfl⟩:=hD 1 (by decide+kernel)
    refine RL.u (.FQ (q:=⟨b,3,none⟩) (.t hl14) (λ w=>by kernel_rfl)) U ?_
    exact RL.nil (RA.next λ a hs=>⟨_,_,Mem.le.refl _,hS29,hs,_,_,rfl,rfl,rfl⟩)
   ·intro LL w31 M32 X hle34 hS33 hK hD
    replace hsl_v6:=hsl_v6.mono hle34
    replace hS33:St w M0 w31 M32 (.raw b2 (AI .u8 (G.map Prod.fst) clk):: .box pb [(.pointer (some ⟨b,0,none⟩))] 131:: .box b [(.int .u32 0),(.int .i32 1),(.int .u32 0),(.map (some b2))] 104::X):=hS33
    obtain⟨g15,v15,hl15,rfl,rfl⟩:=hD 2 (by decide+kernel)
    refine RL.u (.D8 (v:=(.map (some b2))) hS33 BG (i:=2) U (.t hl15) Tryz.isAgg102 U) U ?_
    exact RL.nil (RA.next λ a hs=>⟨_,_,Mem.le.refl _,hS33,hs,_,_,rfl,rfl,rfl⟩)
   ·intro LL w35 M36 X hle38 hS37 hK hD
    replace hsl_v6:=hsl_v6.mono hle38
    replace hS37:St w M0 w35 M36 (.raw b2 (AI .u8 (G.map Prod.fst) clk):: .box pb [(.pointer (some ⟨b,0,none⟩))] 131:: .box b [(.int .u32 0),(.int .i32 1),(.int .u32 0),(.map (some b2))] 104::X):=hS37
    refine RL.u (.move (.t (hK _ _ U))) U ?_
    exact RL.nil (RA.next λ a hs=>⟨_,_,Mem.le.refl _,hS37,hs,_,_,rfl,rfl,rfl⟩)
   ·intro LL w39 M40 X hle42 hS41 hK hD
    replace hsl_v6:=hsl_v6.mono hle42
    replace hS41:St w M0 w39 M40 (.raw b2 (AI .u8 (G.map Prod.fst) clk):: .box pb [(.pointer (some ⟨b,0,none⟩))] 131:: .box b [(.int .u32 0),(.int .i32 1),(.int .u32 0),(.map (some b2))] 104::X):=hS41
    obtain⟨g17,v17,hl17,rfl,rfl⟩:=hD 4 (by decide+kernel)
    refine RL.u (.E9 (.t hl17) .c Tryz.underlying9 (λ _=>by first|omega)) U ?_
    exact RL.nil (RA.next λ a hs=>⟨_,_,Mem.le.refl _,hS41,hs,_,_,rfl,rfl,rfl⟩)
   ·intro LL w43 M44 X hle46 hS45 hK hD
    replace hsl_v6:=hsl_v6.mono hle46
    replace hS45:St w M0 w43 M44 (.raw b2 (AI .u8 (G.map Prod.fst) clk):: .box pb [(.pointer (some ⟨b,0,none⟩))] 131:: .box b [(.int .u32 0),(.int .i32 1),(.int .u32 0),(.map (some b2))] 104::X):=hS45
    refine RL.u (.D8 (v:=(.pointer (some ⟨b,0,none⟩))) hS45 BG (i:=1) U (.t (hK _ _ U)) Tryz.isAgg131 U) U ?_
    exact RL.nil (RA.next λ a hs=>⟨_,_,Mem.le.refl _,hS45,hs,_,_,rfl,rfl,rfl⟩)
   ·intro LL w47 M48 X hle50 hS49 hK hD
    replace hsl_v6:=hsl_v6.mono hle50
    replace hS49:St w M0 w47 M48 (.raw b2 (AI .u8 (G.map Prod.fst) clk):: .box pb [(.pointer (some ⟨b,0,none⟩))] 131:: .box b [(.int .u32 0),(.int .i32 1),(.int .u32 0),(.map (some b2))] 104::X):=hS49
    obtain⟨g19,v19,hl19,rfl,rfl⟩:=hD 6 (by decide+kernel)
    refine RL.u (.GS (.t hl19)) U ?_
    exact RL.nil (RA.next λ a hs=>⟨_,_,Mem.le.refl _,hS49,hs,_,_,rfl,rfl,rfl⟩)
   ·intro LL w51 M52 X hle54 hS53 hK hD
    replace hsl_v6:=hsl_v6.mono hle54
    replace hS53:St w M0 w51 M52 (.raw b2 (AI .u8 (G.map Prod.fst) clk):: .box pb [(.pointer (some ⟨b,0,none⟩))] 131:: .box b [(.int .u32 0),(.int .i32 1),(.int .u32 0),(.map (some b2))] 104::X):=hS53
    obtain⟨g20,v20,hl20,rfl,rfl⟩:=hD 7 (by decide+kernel)
    refine RL.u (.FQ (q:=⟨b,3,none⟩) (.t hl20) (λ w=>by kernel_rfl)) U ?_
    exact RL.nil (RA.next λ a hs=>⟨_,_,Mem.le.refl _,hS53,hs,_,_,rfl,rfl,rfl⟩)
   ·intro LL w55 M56 X hle58 hS57 hK hD
    replace hsl_v6:=hsl_v6.mono hle58
    replace hS57:St w M0 w55 M56 (.raw b2 (AI .u8 (G.map Prod.fst) clk):: .box pb [(.pointer (some ⟨b,0,none⟩))] 131:: .box b [(.int .u32 0),(.int .i32 1),(.int .u32 0),(.map (some b2))] 104::X):=hS57
    obtain⟨g21,v21,hl21,rfl,rfl⟩:=hD 8 (by decide+kernel)
    refine RL.u (.D8 (v:=(.map (some b2))) hS57 BG (i:=2) U (.t hl21) Tryz.isAgg102 U) U ?_
    exact RL.nil (RA.next λ a hs=>⟨_,_,Mem.le.refl _,hS57,hs,_,_,rfl,rfl,rfl⟩)
   ·intro LL w59 M60 X hle62 hS61 hK hD
    replace hsl_v6:=hsl_v6.mono hle62
    replace hS61:St w M0 w59 M60 (.raw b2 (AI .u8 (G.map Prod.fst) clk):: .box pb [(.pointer (some ⟨b,0,none⟩))] 131:: .box b [(.int .u32 0),(.int .i32 1),(.int .u32 0),(.map (some b2))] 104::X):=hS61
    refine RL.u (.move (.t (hK _ _ U))) U ?_
    exact RL.nil (RA.next λ a hs=>⟨_,_,Mem.le.refl _,hS61,hs,_,_,rfl,rfl,rfl⟩)
   ·intro LL w63 M64 X hle66 hS65 hK hD
    replace hsl_v6:=hsl_v6.mono hle66
    replace hS65:St w M0 w63 M64 (.raw b2 (AI .u8 (G.map Prod.fst) clk):: .box pb [(.pointer (some ⟨b,0,none⟩))] 131:: .box b [(.int .u32 0),(.int .i32 1),(.int .u32 0),(.map (some b2))] 104::X):=hS65
    obtain⟨g23,v23,hl23,rfl,rfl⟩:=hD 10 (by decide+kernel)
    refine RL.u (.E9 (.t hl23) .c Tryz.underlying9 (λ _=>by first|omega)) U ?_
    exact RL.nil (RA.next λ a hs=>⟨_,_,Mem.le.refl _,hS65,hs,_,_,rfl,rfl,rfl⟩)
   ·intro LL w67 M68 X hle70 hS69 hK hD
    replace hsl_v6:=hsl_v6.mono hle70
    replace hS69:St w M0 w67 M68 (.raw b2 (AI .u8 (G.map Prod.fst) clk):: .box pb [(.pointer (some ⟨b,0,none⟩))] 131:: .box b [(.int .u32 0),(.int .i32 1),(.int .u32 0),(.map (some b2))] 104::X):=hS69
    obtain⟨g22,v22,hl22,rfl,rfl⟩:=hD 9 (by decide+kernel)
    obtain⟨g24,v24,hl24,rfl,rfl⟩:=hD 11 (by decide+kernel)
    refine RL.u (.lookup (k:=.u8) (v:=vx13) hS69 BG (i:=0) U (.t hl22) (.t hl24) Tryz.underlying102 Tryz.underlying5 Tryz.zeroValue32 hget17) U ?_
    exact RL.nil (RA.next λ a hs=>⟨_,_,Mem.le.refl _,hS69,hs,_,_,rfl,rfl,rfl⟩)
   ·intro LL w71 M72 X hle74 hS73 hK hD
    replace hsl_v6:=hsl_v6.mono hle74
    replace hS73:St w M0 w71 M72 (.raw b2 (AI .u8 (G.map Prod.fst) clk):: .box pb [(.pointer (some ⟨b,0,none⟩))] 131:: .box b [(.int .u32 0),(.int .i32 1),(.int .u32 0),(.map (some b2))] 104::X):=hS73
    refine RL.u (.move (.t (hK _ _ U))) U ?_
    exact RL.nil (RA.next λ a hs=>⟨_,_,Mem.le.refl _,hS73,hs,_,_,rfl,rfl,rfl⟩)
   ·intro LL w75 M76 X hle78 hS77 hK hD hX
    replace hsl_v6:=hsl_v6.mono hle78
    obtain rfl:(.own 9 1 vx13 xs14.length (xs14.flatMap AW)::(R15++Rs))=X:=Eq.symm hX
    replace hS77:St w M0 w75 M76 (.raw b2 (AI .u8 (G.map Prod.fst) clk):: .box pb [(.pointer (some ⟨b,0,none⟩))] 131:: .box b [(.int .u32 0),(.int .i32 1),(.int .u32 0),(.map (some b2))] 104:: .own 9 1 vx13 xs14.length (xs14.flatMap AW)::(R15++Rs)):=hS77
    obtain⟨g26,v26,hl26,rfl,rfl⟩:=hD 13 (by decide+kernel)
    refine RL.buildSlice (n:=1) (sz:=1) (e:=9) (vs:=[(0,(str (at' AD k)))]) (cs:=[(str (at' AD k))]) hS77 (.cons (.t hl26) .nil) U U (λ w=>by kernel_rfl) U (λ v79 w80 M81 hS82 hle83=>?_)
    replace hS82:St w M0 w80 M81 (.own 9 1 v79 (([at' AD k]:List A1)).length ((([at' AD k]:List A1)).flatMap AW):: .raw b2 (AI .u8 (G.map Prod.fst) clk):: .box pb [(.pointer (some ⟨b,0,none⟩))] 131:: .box b [(.int .u32 0),(.int .i32 1),(.int .u32 0),(.map (some b2))] 104:: .own 9 1 vx13 xs14.length (xs14.flatMap AW)::(R15++Rs)):=hS82
    replace hsl_v6:=hsl_v6.mono hle83
    replace hS82:St w M0 w80 M81 (.box pb [(.pointer (some ⟨b,0,none⟩))] 131:: .box b [(.int .u32 0),(.int .i32 1),(.int .u32 0),(.map (some b2))] 104:: .own 9 1 v79 (([at' AD k]:List A1)).length ((([at' AD k]:List A1)).flatMap AW):: .raw b2 (AI .u8 (G.map Prod.fst) clk):: .own 9 1 vx13 xs14.length (xs14.flatMap AW)::(R15++Rs)):=(hS82.front 3 U U).front 3 U U
    replace hS82:St w M0 w80 M81 (.raw b2 (AI .u8 (G.map Prod.fst) clk):: .box pb [(.pointer (some ⟨b,0,none⟩))] 131:: .box b [(.int .u32 0),(.int .i32 1),(.int .u32 0),(.map (some b2))] 104:: .own 9 1 v79 (([at' AD k]:List A1)).length ((([at' AD k]:List A1)).flatMap AW):: .own 9 1 vx13 xs14.length (xs14.flatMap AW)::(R15++Rs)):=hS82.front 3 U U
    exact RL.nil (RA.next λ a hs=>⟨_,_,(.own 9 1 v79 (([at' AD k]:List A1)).length ((([at' AD k]:List A1)).flatMap AW):: .own 9 1 vx13 xs14.length (xs14.flatMap AW)::(R15++Rs)),hle83,hS82,hs,⟨_,_,rfl,trivial⟩,⟨_,rfl,rfl⟩⟩)
   ·intro LL w84 M85 X hle87 hS86 hK hD hX
    replace hsl_v6:=hsl_v6.mono hle87
    obtain⟨vx88,hl27,rfl⟩:=hX
    replace hS86:St w M0 w84 M85 (.raw b2 (AI .u8 (G.map Prod.fst) clk):: .box pb [(.pointer (some ⟨b,0,none⟩))] 131:: .box b [(.int .u32 0),(.int .i32 1),(.int .u32 0),(.map (some b2))] 104:: .own 9 1 vx88 (([at' AD k]:List A1)).length ((([at' AD k]:List A1)).flatMap AW):: .own 9 1 vx13 xs14.length (xs14.flatMap AW)::(R15++Rs)):=hS86
    obtain⟨g25,v25,hl25,rfl,hv25⟩:=hD 12 (by decide+kernel)
    subst v25
    refine RL.PS (f:=AW) (l:=xs14) (y:=at' AD k) hS86 (k:=4) U (.t hl25) (.t hl27) (hS86.sl (i:=3) U) Tryz.underlying32 Tryz.type9 U U U bF (by':=16) U U (by first|omega) U (Hs':=λ v'=>(.raw b2 (AI .u8 (G.map Prod.fst) clk):: .box pb [(.pointer (some ⟨b,0,none⟩))] 131:: .box b [(.int .u32 0),(.int .i32 1),(.int .u32 0),(.map (some b2))] 104:: .own 9 1 vx88 (([at' AD k]:List A1)).length ((([at' AD k]:List A1)).flatMap AW):: .own 9 1 v' (xs14++[at' AD k]).length ((xs14++[at' AD k]).flatMap AW)::(R15++Rs))) (λ _=>rfl) (λ v89 w90 M91 hS92 hle93=>?_)
    replace hS92:=hS92.erase 3 U
    replace hsl_v6:=hsl_v6.mono hle93
    replace hS92:St w M0 w90 M91 (.box pb [(.pointer (some ⟨b,0,none⟩))] 131:: .box b [(.int .u32 0),(.int .i32 1),(.int .u32 0),(.map (some b2))] 104:: .raw b2 (AI .u8 (G.map Prod.fst) clk):: .own 9 1 v89 (xs14++[at' AD k]).length ((xs14++[at' AD k]).flatMap AW)::(R15++Rs)):=(hS92.front 2 U U).front 2 U U
    replace hS92:St w M0 w90 M91 (.raw b2 (AI .u8 (G.map Prod.fst) clk):: .box pb [(.pointer (some ⟨b,0,none⟩))] 131:: .box b [(.int .u32 0),(.int .i32 1),(.int .u32 0),(.map (some b2))] 104:: .own 9 1 v89 (xs14++[at' AD k]).length ((xs14++[at' AD k]).flatMap AW)::(R15++Rs)):=hS92.front 2 U U
    exact RL.nil (RA.next λ a hs=>⟨_,_,(.own 9 1 v89 (xs14++[at' AD k]).length ((xs14++[at' AD k]).flatMap AW)::(R15++Rs)),hle93,hS92,hs,⟨_,_,rfl,trivial⟩,⟨_,rfl,rfl⟩⟩)
   ·intro LL w94 M95 X hle97 hS96 hK hD hX
    replace hsl_v6:=hsl_v6.mono hle97
    obtain⟨vx98,hl28,rfl⟩:=hX
    replace hS96:St w M0 w94 M95 (.raw b2 (AI .u8 (G.map Prod.fst) clk):: .box pb [(.pointer (some ⟨b,0,none⟩))] 131:: .box b [(.int .u32 0),(.int .i32 1),(.int .u32 0),(.map (some b2))] 104:: .own 9 1 vx98 (xs14++[at' AD k]).length ((xs14++[at' AD k]).flatMap AW)::(R15++Rs)):=hS96
    obtain⟨g16,v16,hl16,rfl,rfl⟩:=hD 3 (by decide)
    obtain⟨g18,v18,hl18,rfl,rfl⟩:=hD 5 (by decide)
    refine RL.bU (v:=vx98) hS96 (i:=0) U (.t hl16) (.t hl18) (.t hl28) Tryz.underlying102 Tryz.underlying5 (l':=(EM (G.map Prod.fst) clk (A2 (at' AD k) 0) vx98)) U (c':=(GB (G.map Prod.fst) clk (A2 (at' AD k) 0) vx98)) U (Hs':=(.raw b2 (AI .u8 (EM (G.map Prod.fst) clk (A2 (at' AD k) 0) vx98) (GB (G.map Prod.fst) clk (A2 (at' AD k) 0) vx98)):: .box pb [(.pointer (some ⟨b,0,none⟩))] 131:: .box b [(.int .u32 0),(.int .i32 1),(.int .u32 0),(.map (some b2))] 104:: .own 9 1 vx98 (xs14++[at' AD k]).length ((xs14++[at' AD k]).flatMap AW)::(R15++Rs))) U (λ w99 hS100=>?_)
    refine RL.nil (o8 (E:=[Y 0 (.pointer (some ⟨pb,0,none⟩)),Y 2 (str (at' AD k)),Y 7 v6,Y 8 (i64 (len AD)),Y 9 (i64 k)]) (.cons (hK _ _ U) (.cons (hK _ _ U) (.cons (hK _ _ U) (.cons (hK _ _ U) (.cons (hK _ _ U) .nil))))) ?_)
    refine(CW.at [Y 0 (.pointer (some ⟨pb,0,none⟩)),Y 7 v6,Y 8 (i64 (len AD)),Y 9 (i64 k)] U ?_)
    refine CW.region (RL.u (.add (.t U) .c (λ _=>by first|omega)) U (RL.m U U ?_))
    replace hS100:St w M0 w99 M95 (.box pb [(.pointer (some ⟨b,0,none⟩))] 131:: .box b [(.int .u32 0),(.int .i32 1),(.int .u32 0),(.map (some b2))] 104:: .raw b2 (AI .u8 (EM (G.map Prod.fst) clk (A2 (at' AD k) 0) vx98) (GB (G.map Prod.fst) clk (A2 (at' AD k) 0) vx98)):: .own 9 1 vx98 (xs14++[at' AD k]).length ((xs14++[at' AD k]).flatMap AW)::(R15++Rs)):=(hS100.front 2 U U).front 2 U U
    replace hS100:St w M0 w99 M95 (.raw b2 (AI .u8 (EM (G.map Prod.fst) clk (A2 (at' AD k) 0) vx98) (GB (G.map Prod.fst) clk (A2 (at' AD k) 0) vx98)):: .box pb [(.pointer (some ⟨b,0,none⟩))] 131:: .box b [(.int .u32 0),(.int .i32 1),(.int .u32 0),(.map (some b2))] 104:: .own 9 1 vx98 (xs14++[at' AD k]).length ((xs14++[at' AD k]).flatMap AW)::(R15++Rs)):=hS100.front 2 U U
    obtain⟨G102,hG1,hG2,hG3⟩:=u7 (w0:=w) (M0:=M0) (A:=.raw b2 (AI .u8 (EM (G.map Prod.fst) clk (A2 (at' AD k) 0) vx98) (GB (G.map Prod.fst) clk (A2 (at' AD k) 0) vx98))) (B:=.box pb [(.pointer (some ⟨b,0,none⟩))] 131) (C:=.box b [(.int .u32 0),(.int .i32 1),(.int .u32 0),(.map (some b2))] 104) (Rs:=Rs) clk hO16 (at' AD k) vx98
    have hS101:=hG2 hS100
    rw[hG1]at hS101
    refine RL.nil λ a hs=>Exists.intro ((k+1,G102,(GB (G.map Prod.fst) clk (A2 (at' AD k) 0) vx98),M95)) ⟨hs.BL [0,7,8,9],?_,?_⟩
    ·refine⟨hS101,hsl_v6,?_⟩
     exact⟨by omega,by omega,hG3 h0 (by omega) U U hG,(hMl.trans hle97)⟩
    ·show Int.toNat _<Int.toNat _;omega
  ·obtain⟨hMM,hS103⟩:=uA hS12 (by rw[show(17:Int)=k from by omega];exact hG)
   replace hS103:St w M0 wl Ml (.box pb [(.pointer (some ⟨b,0,none⟩))] 131:: .box b [(.int .u32 0),(.int .i32 1),(.int .u32 0),(.map (some b2))] 104:: .raw b2 (AI .u8 (G.map Prod.fst) clk)::Rs):=(hS103.front 2 U U).front 2 U U
   replace hS103:St w M0 wl Ml (.raw b2 (AI .u8 (G.map Prod.fst) clk):: .box pb [(.pointer (some ⟨b,0,none⟩))] 131:: .box b [(.int .u32 0),(.int .i32 1),(.int .u32 0),(.map (some b2))] 104::Rs):=hS103.front 2 U U
   refine CW.exit (hE.e0 U ?_)
   exact⟨_,rfl,_,_,_,Ml,rfl,hMM,hS103,hMl⟩
end Go.Proofs.YtmjpjbmeamnfpaaGreatDoor
set_option maxRecDepth 100000
namespace Go.Proofs.YtmjpjbmeamnfpaaGreatDoor
open Go.Eng
theorem YT{w:World}{b:Nat}{cs:List Value}{t:TypeId}(i:Nat)(x:Value)(h:w.heap[b]? =some (.cells cs.toArray t (0,0))):w.setCell ⟨b,i,none⟩ x=w.setRow b (cs.set i x).toArray:=by
 unfold World.setCell World.setRow
 congr 1
 apply Array.ext_getElem?
 intro k
 by_cases hk:b=k
 ·subst hk;simp[Array.getElem?_modify,h]
 ·simp[Array.getElem?_modify,hk]
theorem RC{w:World}{b:Nat}{cs:List Value}{t:TypeId}(h:w.heap[b]? =some (.cells cs.toArray t (0,0)))(i:Nat):w.cell? ⟨b,i,none⟩=cs[i]?:=by simp[World.cell?,h]
theorem YU{w:World}{b:Nat}{cs:List Value}{t:TypeId}(h:w.heap[b]? =some (.cells cs.toArray t (0,0)))(i:Nat):w.frozen? ⟨b,i,none⟩=false:=by simp[World.frozen?,h]
def K1(M:Mem)(cs:List Value)(X:HO):Prop:=
 (cs=[.int .u32 0,.int .i32 0,.int .u32 0,.map none]/\X= .own 9 1 (.slice none 0 0) 0 [])\/
 ∃mb l c,cs=[.int .u32 1,.int .i32 0,.int .u32 0,.map (some mb)]/\X= .raw mb (AI .u8 l c)/\KO M l
theorem KO.mono {M M':Mem}{l:List KV}(h:KO M l)(hm:M.le M'):KO M' l:=λ c=>by obtain⟨v,h1,h2⟩:=h c;exact⟨v,h1,h2.mono hm⟩
theorem K1.mono {M M':Mem}{cs:List Value}{X:HO}(h:K1 M cs X)(hm:M.le M'):K1 M' cs X:=h.imp id λ⟨mb,l,c,h1,h2,h3⟩=>⟨mb,l,c,h1,h2,KO.mono h3 hm⟩
theorem uF{w wv:World}{M0 M:Mem}{Rs:List HO}(pb b:Nat)(cs:List Value)(X:HO)(hS:St w M0 wv M (.box pb [.pointer (some ⟨b,0,none⟩)] 131:: .box b cs 104::X::Rs))(hm:K1 M cs X)(hg:Gl w):
  Calls Tryz.prog 113 [.pointer (some ⟨b,0,none⟩),.func (.func 114) #[] #[.pointer (some ⟨pb,0,none⟩)]].toArray wv λ e w'=> ∃v,e= .returned v/\ ∃mb l c M',v= .tuple #[]/\KO M' l/\St w M0 w' M' (.box pb [.pointer (some ⟨b,0,none⟩)] 131:: .box b [.int .u32 1,.int .i32 0,.int .u32 0,.map (some mb)] 104:: .raw mb (AI .u8 l c)::Rs)/\M.le M':=by
 rcases hm with⟨rfl,rfl⟩|⟨mb,l,c,rfl,rfl,hM⟩
 ·have hb:=(hS.obj (i:=1) U).2.1
  have hS1:St w M0 (wv.setCell ⟨b,1,none⟩ (.int .i32 1)) M (.box pb [.pointer (some ⟨b,0,none⟩)] 131:: .box b [.int .u32 0,.int .i32 1,.int .u32 0,.map none] 104:: .own 9 1 (.slice none 0 0) 0 []::Rs):=by
   rw[YT 1 _ hb];exact hS.PQ (i:=1) U _
  have hS2:=hS1.erase 2 (Hs':=.box pb [.pointer (some ⟨b,0,none⟩)] 131:: .box b [.int .u32 0,.int .i32 1,.int .u32 0,.map none] 104::Rs) U
  refine(tJ 114 #[.pointer (some ⟨pb,0,none⟩)] b wv (λ w1=> ∃mb l c M',KO M' l/\St w M0 w1 M' (.raw mb (AI .u8 l c):: .box pb [.pointer (some ⟨b,0,none⟩)] 131:: .box b [.int .u32 0,.int .i32 1,.int .u32 0,.map (some mb)] 104::Rs)/\M.le M') Tryz.call114 (by rw[RC hb];rfl) (by rw[RC hb];rfl) (YU hb 1) ?_).mono ?_
  ·refine(uE pb b hS2 hg).mono ?_
   rintro e w' ⟨v,rfl,mb,l,c,M',rfl,h1,h2,h3⟩
   have hb':=(h2.obj (i:=2) U).2.1
   exact⟨rfl,by rw[RC hb'];rfl,YU hb' 0,by rw[RC hb'];rfl,YU hb' 1,mb,l,c,M',h1,h2,h3⟩
  ·rintro e w' ⟨rfl,w1,⟨mb,l,c,M',h1,h2,h3⟩,_,_,_,_,rfl⟩
   refine⟨_,rfl,mb,l,c,M',rfl,h1,?_,h3⟩
   have h4:=h2.ext (Ext.drew w1)
   have hb4:=(h4.obj (i:=2) U).2.1
   rw[YT 0 _ hb4]
   have h5:St w M0 (w1.drew.setRow b [.int .u32 1,.int .i32 1,.int .u32 0,.map (some mb)].toArray) M' (.raw mb (AI .u8 l c):: .box pb [.pointer (some ⟨b,0,none⟩)] 131:: .box b [.int .u32 1,.int .i32 1,.int .u32 0,.map (some mb)] 104::Rs):=h4.PQ (i:=2) U _
   have hb5:=(h5.obj (i:=2) U).2.1
   show St w M0 ((w1.drew.setRow b [.int .u32 1,.int .i32 1,.int .u32 0,.map (some mb)].toArray).setCell ⟨b,1,none⟩ (.int .i32 0)) M' _
   rw[YT 1 _ hb5]
   have h6:St w M0 ((w1.drew.setRow b [.int .u32 1,.int .i32 1,.int .u32 0,.map (some mb)].toArray).setRow b [.int .u32 1,.int .i32 0,.int .u32 0,.map (some mb)].toArray) M' (.raw mb (AI .u8 l c):: .box pb [.pointer (some ⟨b,0,none⟩)] 131:: .box b [.int .u32 1,.int .i32 0,.int .u32 0,.map (some mb)] 104::Rs):=h5.PQ (i:=2) U _
   exact(h6.front 1 U U).front 2 U U|>.front 1 U U
 ·have hb:=(hS.obj (i:=1) U).2.1
  refine(tK ⟨b,0,none⟩ 1 (by decide) _ wv (by rw[RC hb];rfl)).mono ?_
  rintro e w' ⟨rfl,rfl⟩
  exact⟨_,rfl,mb,l,c,M,rfl,hM,hS,Mem.le.refl _⟩
end Go.Proofs.YtmjpjbmeamnfpaaGreatDoor
set_option maxRecDepth 100000
namespace Go.Proofs.YtmjpjbmeamnfpaaGreatDoor
open Go.Eng
theorem gE{w wv:World}{M0 M:Mem}{Rs:List HO}(b:Nat)(cs:List Value)(X:HO)(s:A1)(hS:St w M0 wv M (.box b cs 104::X::Rs))(hm:K1 M cs X)(hg:Gl w)(h0:0<len s)(hb:len s<=1099511627776):
  Calls Tryz.prog 79 [(.pointer (some ⟨b,0,none⟩)),(str s)].toArray wv λ e w'=> ∃v,e= .returned v/\ ∃cs' X' M',v=str (BK s)/\K1 M' cs' X'/\St w M0 w' M' (.box b cs' 104::X'::Rs)/\M.le M':=by
 refine CW.C4 Tryz.func79 U Tryz.ntmps79 (Nat.le_of_ble_eq_true U) λ Q hE=>?_
 refine CW.weaken [0,1] (L':=[Y 0 (.pointer (some ⟨b,0,none⟩)),Y 1 (str s)]) ?_ U
 refine CW.sr ?_
 refine RL.box (v:=(.pointer (some ⟨b,0,none⟩))) hS (.t U) U (λ w1 b2 hS3=>?_)
 refine RL.u (.assign .c) U (RL.nil (CW.id ?_))
 refine CW.sr (RL.u (.D8 (v:=(.pointer (some ⟨b,0,none⟩))) hS3 BG (i:=0) U (.t U) Tryz.isAgg131 U) U (RL.u (.GS (.t U)) U (RL.u (.FQ (q:=⟨b,0,none⟩) (.t U) (λ w=>by kernel_rfl)) U (RL.u (.makeFunc .nil (.cons (.t U) .nil)) U ?_))))
 replace hS3:St w M0 w1 M (.box b cs 104::X:: .box b2 [(.pointer (some ⟨b,0,none⟩))] 131::Rs):=(hS3.front 2 U U).front 2 U U
 replace hS3:St w M0 w1 M (.box b2 [(.pointer (some ⟨b,0,none⟩))] 131:: .box b cs 104::X::Rs):=hS3.front 2 U U
 refine RL.CU Tryz.call113 (.cons (.t U) (.cons (.t U) .nil)) (uF (Rs:=Rs) b2 b cs X hS3 (by assumption) hg) U ?_
 rintro v7 w8 ⟨mb4,ml5,mc6,M9,rfl,hMM_mb4,hS10,hle11⟩
 replace hS10:St w M0 w8 M9 (.box b2 [(.pointer (some ⟨b,0,none⟩))] 131:: .box b [(.int .u32 1),(.int .i32 0),(.int .u32 0),(.map (some mb4))] 104:: .raw mb4 (AI .u8 ml5 mc6)::Rs):=hS10
 refine RL.nil (CW.at [Y 1 (str s),Y 2 (.pointer (some ⟨b2,0,none⟩))] U (CW.seq (CW.seq ?_)))
 refine CW.SP hS10 PW (by decide+kernel) ?_
 refine RQ.v .none (.D8 (v:=(.pointer (some ⟨b,0,none⟩))) hS10 (λ _ h=>h) (i:=0) U (.t U) Tryz.isAgg131 U) U ?_
 refine RQ.v .none (.GS (.t U)) U ?_
 refine RQ.v .none (.FQ (q:=⟨b,3,none⟩) (.t U) (λ w=>by kernel_rfl)) U ?_
 refine RQ.v .none (.D8 (v:=(.map (some mb4))) hS10 (λ _ h=>h) (i:=1) U (.t U) Tryz.isAgg102 U) U ?_
 refine RQ.v .none (.move (.t U)) U ?_
 refine RQ.v .none (.E9 (.t U) .c Tryz.underlying9 (λ _=>by omega)) U ?_
 obtain⟨mv,hmv,hmsl⟩:=hMM_mb4 (A2 s 0)
 refine RQ.v .none (.lookup (k:=.u8) (v:=mv) hS10 (λ _ h=>h) (i:=2) U (.t U) (.t U) Tryz.underlying102 Tryz.underlying5 Tryz.zeroValue32 hmv) U ?_
 refine RQ.v .none (.NO hmsl (.t U) ⟨_,Tryz.underlying32⟩) U ?_
 refine RQ.v .none (.move .c) U ?_
 refine RQ.nil (λ a hs w12 hS13=>CW.at [Y 1 (str s),Y 18 mv,Y 19 (i64 (len (marksOf (A2 s 0)))),Y 20 (i64 0)] U ?_ a hs)
 refine CW.block ?_
 refine CW.loop (σ:=Int) (λ k=>[Y 1 (str s),Y 18 mv,Y 19 (i64 (len (marksOf (A2 s 0)))),Y 20 (i64 k)]) (λ k wl=>St w M0 wl M9 (.box b2 [(.pointer (some ⟨b,0,none⟩))] 131:: .box b [(.int .u32 1),(.int .i32 0),(.int .u32 0),(.map (some mb4))] 104:: .raw mb4 (AI .u8 ml5 mc6)::Rs)/\0<=k/\k<=len (marksOf (A2 s 0))/\J8 s (marksOf (A2 s 0)) k) (λ k=>(len (marksOf (A2 s 0))-k).toNat) 0 [1,18,19,20] U ?_ ?_
 ·refine⟨hS13,?_⟩;exact⟨by omega,A8 _,rfl⟩
 ·rintro k wl ⟨hS14,hk0,hk1,hN⟩
  have hll:=hmsl.le
  change len (marksOf (A2 s 0))<=9223372036854775807 at hll
  refine CW.sr (RL.u (.lss (.t U) (.t U)) U (RL.nil (CW.id (CW.seq ?_))))
  refine CW.cond rfl ?_ ?_<;>intro hb1<;>try simp only[zb]at hb1
  ·refine CW.skip (CW.id (CW.seq (CW.block (CW.sr ?_))))
   refine RL.u (.SO hmsl (.t U) (.t U) Tryz.underlying32 Tryz.sizeOf9 (λ _=>by omega)) U (RL.u (.SL (f:=AW) (i:=k) (j:=0) (u:=(str (at' (marksOf (A2 s 0)) k))) hS14 BG hmsl DN (.t U) Tryz.isAgg9 (λ _=>by omega) U U) U (RL.a U U (RL.nil (CW.id ?_))))
   refine CW.sr (RL.m U U (RL.m U U ?_))
   refine RL.FG .none Tryz.call77 (.cons (.t U) (.cons (.t U) .nil)) (λ _=>(MC s (at' (marksOf (A2 s 0)) k) _)) U ?_
   refine RL.nil (CW.at [Y 1 (str s),Y 6 (str (at' (marksOf (A2 s 0)) k)),Y 18 mv,Y 19 (i64 (len (marksOf (A2 s 0)))),Y 20 (i64 k),Y 26 (.bool (Lib.hasPrefix s (at' (marksOf (A2 s 0)) k)))] U ?_)
   refine CW.cond rfl ?_ ?_<;>intro hb2<;>try simp only[zb]at hb2
   ·refine CW.sr (RL.m U U (RL.a U U (RL.nil (CW.id (CW.ret (hE.r1 U U ?_))))))
    replace hS14:St w M0 wl M9 (.raw mb4 (AI .u8 ml5 mc6):: .box b [(.int .u32 1),(.int .i32 0),(.int .u32 0),(.map (some mb4))] 104::Rs):=(hS14.erase 0 U).front 1 U U
    replace hS14:St w M0 wl M9 (.box b [(.int .u32 1),(.int .i32 0),(.int .u32 0),(.map (some mb4))] 104:: .raw mb4 (AI .u8 ml5 mc6)::Rs):=hS14.front 1 U U
    have hq:BK s=at' (marksOf (A2 s 0)) k:=by rw[gC,hN.found hk0 hb1 hb2]
    exact⟨_,rfl,_,_,_,by rw[hq],.inr ⟨_,_,_,rfl,rfl,hMM_mb4⟩,hS14,hle11⟩
   ·refine CW.skip (CW.id ?_)
    refine CW.region (RL.u (.add (.t U) .c (λ _=>by omega)) U (RL.m U U ?_))
    refine RL.nil λ a hs=>Exists.intro (k+1) ⟨hs.BL [1,18,19,20],?_,?_⟩
    ·refine⟨hS14,?_⟩
     exact⟨by omega,by omega,hN.step hk0 hb1 (by simpa using hb2)⟩
    ·show Int.toNat _<Int.toNat _;omega
  ·refine CW.exit (CW.at [] U ?_)
   refine CW.sr (RL.u (.assign .c) U (RL.nil (CW.id (CW.ret (hE.r1 U U ?_)))))
   replace hS14:St w M0 wl M9 (.raw mb4 (AI .u8 ml5 mc6):: .box b [(.int .u32 1),(.int .i32 0),(.int .u32 0),(.map (some mb4))] 104::Rs):=(hS14.erase 0 U).front 1 U U
   replace hS14:St w M0 wl M9 (.box b [(.int .u32 1),(.int .i32 0),(.int .u32 0),(.map (some mb4))] 104:: .raw mb4 (AI .u8 ml5 mc6)::Rs):=hS14.front 1 U U
   have hq:BK s=[]:=by rw[gC,hN.UI (by omega)]
   exact⟨_,rfl,_,_,_,by rw[hq],.inr ⟨_,_,_,rfl,rfl,hMM_mb4⟩,hS14,hle11⟩
end Go.Proofs.YtmjpjbmeamnfpaaGreatDoor
