/- Lemmas for the card. -/
import Derived.Test.YtnoegalemkbbbaaGreatDoorKt14
set_option linter.unusedVariables false
set_option linter.unusedSimpArgs false
set_option maxRecDepth 100000
namespace Go.Eng
open Go.RowKit
def J3(a b:Int):Int:=if a<b then-1 else if b<a then 1 else 0
def T0(a b:A0):Int:=if Op.bytesLess a b=true then-1 else if Op.bytesLess b a=true then 1 else 0
def T1(a b:Nd):Int:=if a.s=[]\/b.s=[]then J3 (len a.s) (len b.s)else if J3 (len a.s+a.e) (len b.s+b.e)≠0 then J3 (len a.s+a.e) (len b.s+b.e)else T0 a.s b.s
def T2(a b:Nd):Int:=if a.neg=true/\b.neg=false then-1 else if b.neg=true/\a.neg=false then 1 else if a.neg=true then T1 b a else T1 a b
def T3(a b:Nd):Int:=if J3 a.kind b.kind≠0 then J3 a.kind b.kind else if a.kind=3 then T2 a b else if a.kind=4 then T0 a.s b.s else 0
def F4(how c:Int):Bool:=
 if how=0 then decide (c=0)else if how=1 then decide (c≠0)else if how=2 then decide (c<0)else if how=3 then decide (c<=0)else if how=4 then decide (0<c)else decide (0<=c)
def HC(a:Tm)(x:Nd):Bool:=F4 a.n (T3 x a.c)
def NS(mask:Int)(l:List Tm)(x:Nd):Bool:=decide (x.kind<5)&&GL x&&J2 mask x.kind.toNat&&l.all λ a=>HC a x
def IJ(n:Int):Int:=if n=0 then 1 else if n=1 then 0 else if n=2 then 5 else if n=3 then 4 else if n=4 then 3 else if n=5 then 2 else 0
def I2(s:A0):A0:=Lib.trimRightS s [57]
def P2(n:Int):A0:=List.replicate n.toNat 57
def P3(s:A0):A0:=if len (I2 s)=0 then [49]++B7 (len s-len (I2 s))else Eng.sub s 0 (len (I2 s)-1)++[(A4 s (len (I2 s)-1)+1).toNat.toUInt8]++B7 (len s-len (I2 s))
def P4(s:A0):A0:=Eng.sub s 0 (len (BC s)-1)++[(A4 s (len (BC s)-1)-1).toNat.toUInt8]++P2 (len s-len (BC s))
def P5(n:Nd)(above:Bool):Int:=max (len n.s+n.e-(if n.neg=above/\n.s=[49]then 1 else 0)-100) (-1000)
def P6(n:Nd)(above:Bool):Nd×Int:=
 if n.s=[]then CL (!above) [49] (-1000)
 else CL n.neg ((if n.neg=above then P4 else P3) (n.s++B7 (n.e-P5 n above))) (P5 n above)
def NT(n:Nd)(above:Bool):Nd×Bool:=((P6 n above).1,decide ((P6 n above).2=0))
def DE(k:Int):Nd:=⟨k,0,[],[],false,0⟩
def MU(n:Nd)(above:Bool):List Nd:=if(NT n above).2=true then [(NT n above).1]else []
def NU(a:Tm):List Nd:=if a.c.kind=3 then [a.c]++MU a.c true++MU a.c false else []
def HE(a:Tm):List Nd:=if a.c.kind=4 then [a.c,⟨4,0,[],a.c.s++[0],false,0⟩]else []
def DW(l:List Tm):List Nd:=[DE 0,DE 1,DE 2,DE 3]++l.flatMap NU++[DE 4]++l.flatMap HE
def IK(mask:Int)(l:List Tm):Nd×Bool:=match(DW l).find? (NS mask l)with
 |some x=>(x,true)
 |none=>(DE 0,false)
set_option maxRecDepth 100000
theorem tI(a b:Int):(a<b/\J3 a b= -1)\/(b<a/\J3 a b=1)\/(a=b/\J3 a b=0):=by
 unfold J3
 rcases Int.lt_trichotomy a b with h|h|h
 ·exact .inl ⟨h,if_pos h⟩
 ·exact .inr (.inr ⟨h,by rw[if_neg Aa,if_neg Aa]⟩)
 ·exact .inr (.inl ⟨h,by rw[if_neg Aa,if_pos h]⟩)
theorem Al1{a b:A0}(h:(!(Op.bytesLess a b||a==b))=true):Op.bytesLess b a=true:=by
 rw[Go.Proofs.bytesLess_eq]at h ⊢
 simp only[Bool.not_eq_true',Bool.or_eq_false_iff,decide_eq_false_iff_not,beq_eq_false_iff_ne]at h
 rw[decide_eq_true_eq]
 exact Decidable.byContradiction λ q=>h.2 (List.le_antisymm (List.not_lt.1 q) (List.not_lt.1 h.1))
theorem Al2{a b:A0}(h1: ¬Op.bytesLess a b=true)(h:(!(Op.bytesLess a b||a==b))=false): ¬Op.bytesLess b a=true:=by
 simp only[Bool.not_eq_false',Bool.or_eq_true,beq_iff_eq]at h
 rcases h with h|h
 ·exact absurd h h1
 ·rw[<-h];rw[h];rw[h]at h1;exact h1
theorem tJ(x:Int):(x != 0)=decide (x≠0):=by by_cases h:x=0<;>simp[h]
theorem Al3(a b:Int): -1<=J3 a b/\J3 a b<=1:=by rcases tI a b with h|h|h<;>omega
end Go.Eng
namespace Go.Proofs.YtnoegalemkbbbaaGreatDoor
open Go.Proofs.Tryz
open Go.Eng
theorem tK(a:Int)(w:World):Calls prog 338 [i64 a].toArray w λ e w'=>e= .returned (.bool false)/\Ext w w':=AE A8 func338 U ntmps338 [] [] [I a] U (BB w) A3 (λ B b=>A2 b U U U λ w M h=>⟨by simp;rfl,h.st.low⟩) U
theorem tL(a:A0)(w:World):Calls prog 247 [str a].toArray w λ e w'=>e= .returned (.bool false)/\Ext w w':=AE A8 func247 U ntmps247 [] [] [.v (str a)] U (BB w) A3 (λ B b=>A2 b U U U λ w M h=>⟨by simp;rfl,h.st.low⟩) U
theorem hY(a b:Int)(w:World):Calls prog 312 [i64 a,i64 b].toArray w λ e w'=>e= .returned (i64 (J3 a b))/\Ext w w':=by
 refine AE A8 func312 U ntmps312 [] [] [I a,I b] U (BB w) A3 (λ B j=>AB U call338 U U (λ _ w M i=>tK a w) U <|AB U call338 U U (λ _ w M i=>tK b w) U <|A1 rfl (λ h=>by cases h) (λ _=>A1 rfl (λ h=>by cases h) (λ _=>?_))) U
 refine A1 U (λ h1=>?_) (λ h1=>?_)<;>simp only[zb]at h1
 ·exact A2 j U U U λ w M i=>⟨by unfold J3;rw[if_pos h1];rfl,i.st.low⟩
 refine A1 U (λ k=>?_) (λ k=>?_)<;>simp only[zb]at k
 ·exact A2 j U U U λ w M i=>⟨by unfold J3;rw[if_neg Aa,if_pos k];rfl,i.st.low⟩
 exact A2 j U U U λ w M i=>⟨by unfold J3;rw[if_neg Aa,if_neg Aa];rfl,i.st.low⟩
theorem tM(a b:A0)(w:World):Calls prog 314 [str a,str b].toArray w λ e w'=>e= .returned (i64 (T0 a b))/\Ext w w':=by
 refine AE A8 func314 U ntmps314 [] [] [.v (str a),.v (str b)] U (BB w) A3 (λ B k=>AB U call247 U U (λ _ w M i=>tL a w) U <|AB U call247 U U (λ _ w M i=>tL b w) U <|A1 rfl (λ h=>by cases h) (λ _=>A1 rfl (λ h=>by cases h) (λ _=>A1 U (λ h1=>?_) (λ h1=>?_)))) U
 ·exact A2 k U U U λ w M i=>⟨by unfold T0;rw[if_pos h1];rfl,i.st.low⟩
 have j: ¬Op.bytesLess a b=true:=by rw[h1];decide
 refine A1 U (λ l=>?_) (λ l=>?_)
 ·exact A2 k U U U λ w M i=>⟨by unfold T0;rw[if_neg j,if_pos (Al1 l)];rfl,i.st.low⟩
 exact A2 k U U U λ w M i=>⟨by unfold T0;rw[if_neg j,if_neg (Al2 j l)];rfl,i.st.low⟩
theorem tN(a b:Nd)(w:World)(q:len a.s<=1048576/\ -1048576<=a.e/\a.e<=1048576)(y:len b.s<=1048576/\ -1048576<=b.e/\b.e<=1048576):
   Calls prog 339 [EH a,EH b].toArray w λ e w'=>e= .returned (i64 (T1 a b))/\Ext w w':=by
 have l:=A6 a.s
 have n:=A6 b.s
 have ho:=Al3 (len a.s+a.e) (len b.s+b.e)
 refine AE A8 func339 U ntmps339 [] [] [CU a,CU b] U (BB w) A3 (λ B j=>BO 2 U U U λ z=>BO 3 U U U λ A=>?_) U
 refine A1 U (λ h1=>?_) (λ h1=>?_)<;>simp only[zb]at h1
 ·exact AB U call312 U U (λ _ w M h=>hY (len a.s) (len b.s) w) U <|A2 j U U U λ w M h=>⟨by unfold T1;rw[if_pos h1];rfl,h.st.low⟩
 have i: ¬(a.s=[]\/b.s=[]):=by simpa using h1
 refine AB U call312 U U (λ _ w M h=>hY (len a.s+a.e) (len b.s+b.e) w) U ?_
 refine A1 U (λ k=>?_) (λ k=>?_)<;>simp only[zb]at k
 ·exact A2 j U U U λ w M h=>⟨by unfold T1;rw[if_neg i,if_pos k];rfl,h.st.low⟩
 exact AB U call314 U U (λ _ w M h=>tM a.s b.s w) U <|A2 j U U U λ w M h=>⟨by unfold T1;rw[if_neg i,if_neg Aa];rfl,h.st.low⟩
theorem Al4(a b:Nd)(w:World)(q:len a.s<=1048576/\ -1048576<=a.e/\a.e<=1048576)(y:len b.s<=1048576/\ -1048576<=b.e/\b.e<=1048576):
   Calls prog 313 [EH a,EH b].toArray w λ e w'=>e= .returned (i64 (T2 a b))/\Ext w w':=by
 refine AE A8 func313 U ntmps313 [] [] [CU a,CU b] U (BB w) A3 (λ B k=>BO 2 U U U λ z=>BO 3 U U U λ A=>A1 U (λ h1=>?_) (λ h1=>?_)) U
 ·exact A2 k U U U λ w M h=>⟨by unfold T2;rw[if_pos (by simpa using h1)];rfl,h.st.low⟩
 have i: ¬(a.neg=true/\b.neg=false):=by simpa using h1
 refine A1 U (λ l=>?_) (λ l=>?_)
 ·exact A2 k U U U λ w M h=>⟨by unfold T2;rw[if_neg i,if_pos (by simpa using l)];rfl,h.st.low⟩
 have j: ¬(b.neg=true/\a.neg=false):=by simpa using l
 refine A1 U (λ n=>?_) (λ n=>?_)
 ·exact AB U call339 U U (λ _ w M h=>tN b a w y q) U <|A2 k U U U λ w M h=>⟨by unfold T2;rw[if_neg i,if_neg j,if_pos n];rfl,h.st.low⟩
 exact AB U call339 U U (λ _ w M h=>tN a b w q y) U <|A2 k U U U λ w M h=>⟨by unfold T2;rw[if_neg i,if_neg j,if_neg (by rw[n];decide)];rfl,h.st.low⟩
abbrev J4(a:Nd):Prop:=len a.s<=1048576/\ -1048576<=a.e/\a.e<=1048576
theorem Al5(a b:Nd)(v u:Value)(w:World)(M:Mem)(z:Sat w M)(A:(kn v 6 [a] Nd.cells).ok M)(hu:(kn u 6 [b] Nd.cells).ok M)(C:J4 a)(D:J4 b)(J:a.kind<5):
   Calls prog 294 [v,u].toArray w λ e w'=>e= .returned (i64 (T3 a b))/\Ext w w':=by
 refine AE (Hr:=[]) A8 func294 U ntmps294 [(0,kn v 6 [a] Nd.cells),(1,kn u 6 [b] Nd.cells)] [] [.sl 0 v,.sl 1 u] U (Aj z) (AA A (AA hu A3)) (λ B n=>?_) U
 have E:len [a]=1:=rfl
 have F:len [b]=1:=rfl
 have j:at' [a] 0=a:=rfl
 have G:at' [b] 0=b:=rfl
 refine DQ U BI Ac <|EZ U call312 U U (λ _ w M i=>hY a.kind b.kind w) U <|DR U ?_
 refine A1 U (λ h1=>?_) (λ h1=>?_)<;>simp only[zb]at h1
 ·exact A2 n U U U λ w M i=>⟨by unfold T3;rw[if_pos h1];rfl,i.st.low⟩
 have H:a.kind=b.kind:=by rcases tI a.kind b.kind with h|h|h<;>omega
 refine A1 U (λ k=>?_) (λ k=>?_)<;>simp only[zb]at k<;>rw[j]at k
 ·exact DQ U BI Ac <|EZ U call313 U U (λ _ w M i=>Al4 a b w C D) U <|DR U <|A2 n U U U λ w M i=>⟨by unfold T3;rw[if_neg Aa,if_pos k];rfl,i.st.low⟩
 refine A1 U (λ l=>?_) (λ l=>?_)<;>simp only[zb]at l<;>rw[j]at l
 ·exact DQ U BI Ac <|EZ U call314 U U (λ _ w M i=>tM a.s b.s w) U <|DR U <|A2 n U U U λ w M i=>⟨by unfold T3;rw[if_neg Aa,if_neg k,if_pos l];rfl,i.st.low⟩
 refine A1 U (λ q=>?_) (λ q=>?_)<;>simp only[zb]at q<;>rw[j]at q
 ·omega
 refine A1 U (λ y=>?_) (λ y=>?_)<;>simp only[zb]at y<;>rw[j]at y
 ·omega
 exact A2 n U U U λ w M i=>⟨by unfold T3;rw[if_neg Aa,if_neg k,if_neg l];rfl,i.st.low⟩
abbrev hZ(a:Tm):XV:=.ag [I a.n,I a.c.kind,I a.c.many,.v (str a.c.name),.v (str a.c.s),.v (.bool a.c.neg),I a.c.e]
abbrev VQ(a:Tm):Value:=.agg (i64 a.n::a.c.cells).toArray
theorem Al6(a:Tm)(x:Nd)(w:World)(M:Mem)(q:Sat w M)(s:J4 a.c)(hx:J4 x)(y:x.kind<5):
   Calls prog 270 [VQ a,EH x].toArray w λ e w'=>e= .returned (.bool (HC a x))/\Ext w w':=by
 refine AE (Hr:=[]) A8 func270 U ntmps270 [] [] [hZ a,CU x] U (Aj q) A3 (λ B i=>BO 2 U U U λ A=>BO 3 U U U λ C=>B9 7 [x] Nd.cells 6 46 Nd.AO U U Ah U λ z=>B9 10 [a.c] Nd.cells 6 46 Nd.AO U U Ah U λ v10=>AB U call294 U U (λ _ w M b=>Al5 x a.c z v10 w M b.st.sat (b.f.get (k:=7) U) (b.f.get (k:=10) U) hx s y) U ?_) U
 refine A1 U (λ h1=>?_) (λ h1=>?_)<;>simp only[zb]at h1
 ·exact A2 i U U U λ w M b=>⟨by unfold HC F4;rw[if_pos h1];rfl,b.st.low⟩
 refine A1 U (λ h=>?_) (λ h=>?_)<;>simp only[zb]at h
 ·exact A2 i U U U λ w M b=>⟨by unfold HC F4;rw[if_neg h1,if_pos h];rw[<-tJ];rfl,b.st.low⟩
 refine A1 U (λ j=>?_) (λ j=>?_)<;>simp only[zb]at j
 ·exact A2 i U U U λ w M b=>⟨by unfold HC F4;rw[if_neg h1,if_neg h,if_pos j];rfl,b.st.low⟩
 refine A1 U (λ l=>?_) (λ l=>?_)<;>simp only[zb]at l
 ·exact A2 i U U U λ w M b=>⟨by unfold HC F4;rw[if_neg h1,if_neg h,if_neg j,if_pos l];rfl,b.st.low⟩
 refine A1 U (λ n=>?_) (λ n=>?_)<;>simp only[zb]at n
 ·exact A2 i U U U λ w M b=>⟨by unfold HC F4;rw[if_neg h1,if_neg h,if_neg j,if_neg l,if_pos n];rfl,b.st.low⟩
 exact A2 i U U U λ w M b=>⟨by unfold HC F4;rw[if_neg h1,if_neg h,if_neg j,if_neg l,if_neg n];rfl,b.st.low⟩
end Go.Proofs.YtnoegalemkbbbaaGreatDoor
set_option maxRecDepth 100000
namespace Go.Eng
theorem Al7{α:Type}(l:List α)(p:α->Bool):(!(l.any λ x=> !p x))=l.all p:=by
 induction l with
 |nil=>rfl
 |cons x l b=>rw[List.any_cons,List.all_cons,<-b];cases p x<;>rfl
theorem Al8{x:Nd}(h:GL x=true):0<=x.kind/\x.kind<=6:=by
 unfold GL K5 at h
 simp only[Bool.and_eq_true]at h
 have h1:=h.1.1
 repeat' split at h1
 all_goals first|omega|(cases h1)
theorem Al9(mask:Int)(k:Nat)(q:Nat)(b:q=mask.toNat/2^k):J2 mask k=decide (¬((q%2:Nat):Int)=0):=by
 unfold J2
 rw[<-b,Bool.eq_iff_iff,beq_iff_eq,decide_eq_true_eq];omega
end Go.Eng
namespace Go.Proofs.YtnoegalemkbbbaaGreatDoor
open Go.Proofs.Tryz
open Go.Eng
abbrev T4(b:Nat)(x:Nd):HO:=.box b x.cells 46
abbrev ER(b:Nat)(x:Nd):HX:=.box b [I x.kind,I x.many,.v (str x.name),.v (str x.s),.v (.bool x.neg),I x.e] 46
abbrev T5(b:Nat):Value:=.func (.func 269) #[] #[.pointer (some ⟨b,0,none⟩)]
theorem Am0{w0 h:World}{M0 M:Mem}{Rs:List HO}(b:Nat)(a:Tm)(x:Nd)(hS:St w0 M0 h M (T4 b x::Rs))(i:J4 a.c)(hx:J4 x)(j:x.kind<5):
  Calls prog 269 [VQ a,.pointer (some ⟨b,0,none⟩)].toArray h (BY w0 M0 M Rs (λ _:Unit=>.bool (!HC a x)) (λ _=>True) (λ _=>[]) λ _=>[T4 b x]):=AE (Hr:=Rs) A8 func269 U ntmps269 [] [(0,ER b x)] [hZ a,.bx 0 b 0] U hS A3 (λ B k=>BO 1 U U U λ l=>AB U call270 U U (λ _ w M e=>Al6 a x w M e.st.sat i hx j) U <|A2 k U U U λ w M' e=>⟨(),M',rfl,trivial,e.le,e.st.drop _ (List.sublist_cons_self _ _),A3⟩) U
theorem Am1{w0 s:World}{M0 M:Mem}{Rs:List HO}(b:Nat)(v:Value)(l:List Tm)(x:Nd)(hS:St w0 M0 s M (T4 b x::Rs))(hl:(kn v 7 l BP).ok M)(E:len l<=1099511627776)(z: ∀a∈l,J4 a.c)(hx:J4 x)(A:x.kind<5):
    Calls prog 293 [v,T5 b].toArray s (BY w0 M0 M Rs (λ k:Int=>i64 k) (λ k=>0<=k↔(l.any λ a=> !HC a x)=true) (λ _=>[]) λ _=>[T4 b x]):=by
 have C:=A6 l
 refine AE (Hr:=Rs) A8 func293 U ntmps293 [(0,kn v 7 l BP)] [(0,ER b x)] [.sl 0 v,.v (T5 b)] U hS (AA hl A3) (λ B y=>AT (σ:=Int) (λ k=>⟨[(0,kn v 7 l BP)],[(0,ER b x)],[Z 0 (.sl 0 v),Z 1 (.v (T5 b)),Z 7 (I (len l)),Z 8 (I k)]⟩) (λ k=>0<=k/\k<=len l/\ ∀a∈Eng.sub l 0 k,¬(!HC a x)=true) (λ k=>(len l-k).toNat) 0 rfl rfl ⟨Aa,Aa,λ x hx=>by cases hx⟩ ?_) U
 intro k ⟨h0,h1,j⟩
 refine A1 U (λ i=>?_) (λ i=>?_)<;>simp only[zb]at i
 ·refine AY [0] (λ _:Unit=>.v (.bool (!HC (at' l k) x))) [] (λ _=>[(0,ER b x)]) (Fg:=λ _=>[]) (pu:=λ _=>True) U U call269 U U (λ w M hS hF=>Am0 b (at' l k) x hS (z _ (at_mem h0 i)) hx A) λ _ _=>A1 U (λ n=>?_) (λ n=>?_)
  ·exact A2 y U U U λ w M' q=>⟨k,M',rfl,⟨λ _=>List.any_eq_true.2 ⟨at' l k,at_mem h0 i,n⟩,λ _=>h0⟩,q.le,q.st,A3⟩
  ·exact AR (k+1) U U ⟨Aa,Aa,λ a e=>by
    rw[HQ h0 i]at e
    rcases List.mem_append.1 e with e|e
    ·exact j a e
    ·rw[List.mem_singleton.1 e,n];decide⟩ Ag
 ·rw[ID Aa]at j
  exact A2 y U U U λ w M' q=>⟨-1,M',rfl,⟨λ h=>by omega,λ h=>by
   obtain⟨a,e,D⟩:=List.any_eq_true.1 h
   exact absurd D (j a e)⟩,q.le,q.st,A3⟩
theorem Am2{w0 j:World}{M0 M:Mem}{Rs:List HO}(b:Nat)(v:Value)(l:List Tm)(x:Nd)(hS:St w0 M0 j M (T4 b x::Rs))(hl:(kn v 7 l BP).ok M)(s:len l<=1099511627776)(y: ∀a∈l,J4 a.c)(hx:J4 x)(z:x.kind<5):
    Calls prog 268 [v,T5 b].toArray j (BY w0 M0 M Rs (λ _:Unit=>.bool (l.any λ a=> !HC a x)) (λ _=>True) (λ _=>[]) λ _=>[T4 b x]):=by
 refine AE (Hr:=Rs) A8 func268 U ntmps268 [(0,kn v 7 l BP)] [(0,ER b x)] [.sl 0 v,.v (T5 b)] U hS (AA hl A3) (λ B A=>AY [0] (λ k:Int=>I k) [] (λ _=>[(0,ER b x)]) (Fg:=λ _=>[]) (pu:=λ k=>0<=k↔(l.any λ a=> !HC a x)=true) U U call293 U U (λ w M hS hF=>Am1 b v l x hS (hF.get (k:=0) U) s y hx z) λ k i=>?_) U
 exact A2 A U U U λ w M' n=>⟨(),M',by
  have e:decide (0<=k)=(l.any λ a=> !HC a x):=by
   by_cases h:0<=k
   · rw[i.1 h];simpa using h
   · rw[show(l.any λ a=> !HC a x)=false from by rw[<-Bool.not_eq_true];exact λ q=>h (i.2 q)];simpa using h
  rw[<-e];rfl,trivial,n.le,n.st,A3⟩
theorem Am3(mask:Int)(v:Value)(l:List Tm)(x:Nd)(w:World)(M:Mem)(J:Sat w M)(hg:Gl w)(hl:(kn v 7 l BP).ok M)(K:len l<=1099511627776)(L: ∀a∈l,J4 a.c)(hx:J4 x)(hm:0<=mask/\mask<=31):
    Calls prog 240 [i64 mask,v,EH x].toArray w λ e w'=>e= .returned (.bool (NS mask l x))/\Ext w w':=by
 refine AE (Hr:=[]) A8 func240 U ntmps240 [(1,kn v 7 l BP)] [] [I mask,.sl 1 v,CU x] U (Aj J) (AA hl A3) (λ B G=>BO 5 U U U λ b=>AB U call267 U U (λ _ w M i=>sF x w M i.st.sat (hg.low i.st.low) hx.1) U <|F9 (I 0) U U (λ y=>?_) (λ y=>?_)) U
 ·have z:(decide (x.kind<5)&&GL x)=true:=by simpa using y
  have j:x.kind<5/\GL x=true:=by simpa using z
  have N:=Al8 j.2
  obtain⟨kn,A⟩: ∃kn:Nat,x.kind=kn:=⟨x.kind.toNat,Aa⟩
  obtain⟨n,rfl⟩: ∃n:Nat,mask=n:=⟨mask.toNat,Aa⟩
  obtain⟨q,H⟩: ∃q,q=n/2^kn:=⟨_,rfl⟩
  have C:q<32:=by rw[H];exact Nat.lt_of_le_of_lt (Nat.div_le_self _ _) Aa
  refine AU (I (q:Int)) U U (λ w M i=>PV.qS (AF (v:=I (n:Int)) (E:=[.b true _]) U (hE:=L7 y U)) (AF (v:=I x.kind) (E:=[.b true _]) U (hE:=L7 y U)) (λ _=>by omega) (λ _=>by rw[A,Ac2 _ _ Aa,H])) <|AU (I ((q%2:Nat):Int)) U U (λ w M i=>PV.fX (AF (v:=I (q:Int)) (E:=[]) U) (AF (v:=I 1) (E:=[]) U) (λ _=>Ac1 ⟨q,C⟩)) ?_
  have D:=Al9 (n:Int) kn q (by rw[H,Int.toNat_natCast])
  have F:NS n l x=(J2 n kn&&l.all λ a=>HC a x):=by unfold NS;rw[z,A,Int.toNat_natCast,Bool.true_and]
  refine A1 U (λ h=>?_) (λ h=>?_)
  ·have s:((q%2:Nat):Int)=0:=by simpa[z,j.1,j.2]using h
   exact A2 G U U U λ w M i=>⟨by rw[F,D,s];rfl,i.st.low⟩
  ·have s: ¬((q%2:Nat):Int)=0:=by intro c;rw[c]at h;simp at h
   refine AU (.v (T5 b)) U U (λ w M i=>PV.makeFunc (xs:=[]) (ys:=[.tmp 5]) (vs:=[]) (us:=[.pointer (some ⟨b,0,none⟩)]) trivial ⟨AF (v:=.bx 5 b 0) (E:=[]) U,trivial⟩) <|AY [5] (λ _:Unit=>.v (.bool (l.any λ a=> !HC a x))) [] (λ _=>[(5,ER b x)]) (Fg:=λ _=>[]) (pu:=λ _=>True) U U call268 U U (λ w M hS hF=>Am2 b v l x hS (hF.get (k:=1) U) K L hx j.1) λ _ _=>A2 G U U U λ w M i=>⟨?_,i.st.low⟩
   rw[F,D,decide_eq_true s,Bool.true_and,<-Al7];rfl
 ·have z:(decide (x.kind<5)&&GL x)=false:=by simpa using y
  refine F9 (I 0) U U (λ j=>?_) (λ j=>?_)
  ·rw[y]at j;cases j
  refine A1 U (λ h=>?_) (λ h=>?_)
  ·exact A2 G U U U λ w M i=>⟨by unfold NS;rw[z];rfl,i.st.low⟩
  ·rw[z]at h;simp at h
theorem i1{P:Program}{f:FuncId}{args:Array Value}{w:World}{u:Value}(h:Calls P f args w λ e w'=>e= .returned u/\w'=w):Calls P f args w λ e w'=>e= .returned u/\Ext w w':=h.mono λ e w' ⟨h1,b⟩=>⟨h1,by rw[b];exact .refl _⟩
theorem VR(neg:Bool)(s:A0)(x:Int)(w:World)(hg:Gl w)(F:len s<=1099511627776):
   Calls prog 288 [.bool neg,str s,i64 x].toArray w λ e w'=>e= .returned (.tuple #[EH (CL neg s x).1,i64 (CL neg s x).2])/\Ext w w':=by
 have q:=dP s
 have A:=AH8 s
 have C:=nF (AS s)
 have D:=A6 (AS s)
 have E:=A6 (BC (AS s))
 refine AE A8 func288 U ntmps288 [] [] [.v (.bool neg),.v (str s),I x] U (BB w) A3 (λ B j=>AZ 1 U zeroValue46 U λ G=>AB U call302 U U (λ _ w M h=>s9 s w (hg.low h.st.low) Aa) U ?_) U
 refine A1 U (λ h1=>?_) (λ h1=>?_)<;>simp only[zb]at h1
 ·exact A2 j U U U λ w M h=>⟨by unfold CL;rw[h1];rfl,h.st.low⟩
 refine AB (u:=str (AS s)) U call303 U U (λ _ w M h=>AG2 s [48] w Ab (Z6 Ab)) U <|A1 (b:=AS s==[]) U (λ l=>?_) (λ l=>?_)
 ·exact A2 j U U U λ w M h=>⟨by unfold CL;rw[if_pos h1,if_pos l];rfl,h.st.low⟩
 have i: ¬(AS s==[])=true:=by rw[l];decide
 refine A1 U (λ n=>?_) (λ n=>?_)
 ·exact A2 j U U U λ w M h=>⟨by unfold CL;rw[if_pos h1,if_neg i,if_pos n];rfl,h.st.low⟩
 have k:=Bool.eq_false_iff.1 n
 simp only[zb]at n
 refine AB (u:=str (BC (AS s))) U call304 U U (λ _ w M h=>dL (AS s) [48] w Aa Ab (Z6 Ab)) U <|AB (u:=.bool (decide (-1000<=x+(len (AS s)-len (BC (AS s))))&&decide (x+(len (AS s)-len (BC (AS s)))<=1000)&&decide (len (BC (AS s))+(x+(len (AS s)-len (BC (AS s))))<=1000))) U (hO:=by show _/\_;simp only[zb]<;>omega) call305 U U (λ _ w M h=>i1 (sA (len (BC (AS s))) (x+(len (AS s)-len (BC (AS s)))) w Aa)) U ?_
 have y:=q
 refine A1 U (λ z=>?_) (λ z=>?_)<;>simp only[zb]at z
 ·exact A2 j U U U λ w M h=>⟨by unfold CL;rw[if_pos h1,if_neg i,if_neg k,if_pos (by simp only[zb];have:=y (by simpa using l);omega)];rfl,h.st.low⟩
 ·exact A2 j U U U λ w M h=>⟨by unfold CL;rw[if_pos h1,if_neg i,if_neg k,if_neg (by simp only[zb];omega)];rfl,h.st.low⟩
end Go.Proofs.YtnoegalemkbbbaaGreatDoor
namespace Go.Eng
open Go.RowKit
theorem Am4: ∀a:Fin 128,DI ((a:Nat):Int)=[((a:Nat):Int).toNat.toUInt8]:=by decide+kernel
theorem tO{r:Int}(h:0<=r/\r<128):DI r=[r.toNat.toUInt8]:=by
 have:=Am4 ⟨r.toNat,Aa⟩
 rw[show(((⟨r.toNat,Aa⟩:Fin 128):Nat):Int)=r by show(r.toNat:Int)=r;omega]at this
 exact this
abbrev GW(s:A0):Prop:= ∀b∈s,48<=b.toNat/\b.toNat<=57
theorem GW.at {s:A0}(h:GW s){i:Int}(h0:0<=i)(h1:i<len s):48<=A4 s i/\A4 s i<=57:=by
 have hi:i.toNat<s.length:=by unfold len at h1;omega
 have:=h s[i.toNat] (List.getElem_mem hi)
 unfold A4
 rw[List.getD_eq_getElem?_getD,List.getElem?_eq_getElem hi]
 show(48:Int)<=(s[i.toNat].toNat:Int)/\_
 exact⟨Aa,by show(s[i.toNat].toNat:Int)<=57;omega⟩
theorem tP{α:Type}{p:α->Bool}{b:α}{r:List α}: ∀ {l:List α},l.dropWhile p=b::r->p b=false
 |[],h=>by cases h
 |a::l,h=>by
  rw[List.dropWhile_cons]at h
  split at h
  ·exact tP h
  ·rename_i e;cases h;simpa using e
theorem i6{α:Type}{p:α->Bool}: ∀ {l:List α},(∀x∈l,p x=true)->l.dropWhile p=[]
 |[],_=>rfl
 |a::l,h=>by rw[List.dropWhile_cons,if_pos (h a (.head _))];exact i6 λ x hx=>h x (.tail _ hx)
theorem tQ(c:UInt8)(s:A0):len (Lib.trimRightS s [c])<=len s/\(0<len (Lib.trimRightS s [c])->A4 s (len (Lib.trimRightS s [c])-1)≠(c.toNat:Int)):=by
 have h1:s.reverse=s.reverse.takeWhile (([c]:A0).contains ·)++s.reverse.dropWhile (([c]:A0).contains ·):=List.takeWhile_append_dropWhile.symm
 have e:s=(s.reverse.dropWhile (([c]:A0).contains ·)).reverse++(s.reverse.takeWhile (([c]:A0).contains ·)).reverse:=by
  rw[<-List.reverse_append,<-h1,List.reverse_reverse]
 have hd:Lib.trimRightS s [c]=(s.reverse.dropWhile (([c]:A0).contains ·)).reverse:=rfl
 rw[hd]
 refine⟨by unfold len;have:=congrArg List.length e;simp at this ⊢;omega,λ hp=>?_⟩
 cases hq:s.reverse.dropWhile (([c]:A0).contains ·)with
 |nil=>rw[hq]at hp;simp[len]at hp
 |cons b r=>
  have i:(([c]:A0).contains b)=false:=by
   exact tP hq
  rw[hq]at e
  unfold A4
  have hl:(len (b::r).reverse-1).toNat=r.length:=by unfold len;simp
  rw[hl,e]
  rw[List.getD_eq_getElem?_getD,List.getElem?_append_left (by simp)]
  simp only[List.reverse_cons,List.getElem?_append_right (show r.reverse.length<=r.length by simp),List.length_reverse,Nat.sub_self,List.getElem?_cons_zero,Option.getD_some]
  intro h
  have:b=c:=UInt8.toNat_inj.1 Aa
  rw[this]at i;simp at i
theorem Am5(d:Int):0<=len (P2 d)/\(len (P2 d)<=0\/len (P2 d)=d):=by unfold P2 len;rw[List.length_replicate];omega
theorem Am6(s:A0):len (P3 s)<=2*len s+2:=by
 have h0:=A6 s
 have h1:=nD (len s-len (I2 s))
 have b:=Q4 s 0 (len (I2 s)-1)
 have e:=A6 (I2 s)
 unfold P3
 split<;>simp only[AN,AH,len_nil]<;>omega
theorem tT(s:A0):len (P4 s)<=2*len s+2:=by
 have h0:=A6 s
 have h1:=Am5 (len s-len (BC s))
 have b:=Q4 s 0 (len (BC s)-1)
 have e:=A6 (BC s)
 unfold P4
 simp only[AN,AH,len_nil];omega
theorem tU{s:A0}(h:JB s=true):GW s:=λ b e=>by
 obtain⟨j,i,rfl⟩:=List.getElem_of_mem e
 exact(YB _).1 (YC.1 h j i)
theorem i7{s:A0}(h:GW s)(k:Int):GW (s++B7 k):=λ b e=>by
 rcases List.mem_append.1 e with e|e
 ·exact h b e
 ·unfold B7 at e;rw[(List.mem_replicate.1 e).2];decide
theorem tV{s:A0}(e:s≠[])(h:Lib.trimB s 48=s)(k:Int):0<len (BC (s++B7 k)):=by
 refine Decidable.byContradiction λ i=>e ?_
 have h0:BC (s++B7 k)=[]:=List.eq_nil_of_length_eq_zero (by unfold len at i;omega)
 unfold BC Lib.trimRightS at h0
 rw[List.reverse_eq_nil_iff]at h0
 have h1:=dropWhile_nil h0
 have j: ∀b∈s.reverse,(b==(48:UInt8))=true:=λ b l=>by
  have:=h1 b (by rw[List.reverse_append];exact List.mem_append_right _ l)
  simpa using this
 have n:Lib.trimRightB s 48=[]:=by
  unfold Lib.trimRightB
  rw[List.reverse_eq_nil_iff]
  exact i6 j
 rw[<-h];unfold Lib.trimB;rw[n];rfl
structure QY (c:Nd):Prop where
 len:len c.s<=100
 e: -1000<=c.e/\c.e<=1000/\Eng.len c.s+c.e<=1000
 fig:GW c.s
 trim:c.s≠[]->Lib.trimB c.s 48=c.s
theorem tW{c:Nd}(h:GL c=true)(j:c.kind=3):QY c:=by
 unfold GL K5 at h
 rw[if_neg Aa,if_pos j]at h
 simp only[Bool.and_eq_true]at h
 have h1:=h.1.1
 unfold OV at h1
 split at h1
 ·cases h1
 ·rename_i i
  simp only[not_or,Decidable.not_not,Bool.not_eq_false]at i
  obtain⟨_,_,_,a,b,d,e,f⟩:=i
  refine⟨Aa,⟨Aa,Aa,Aa⟩,tU f,λ k=>?_⟩
  rw[if_neg k]at h1
  simpa using h1
theorem tX{c:Nd}{b:Bool}{top:Int}(h:top=len c.s+c.e-(if c.neg=b/\c.s=[49]then 1 else 0)):(if-1000>top-100 then-1000 else top-100)=P5 c b:=by
 unfold P5;rw[<-h];omega
end Go.Eng
namespace Go.Proofs.YtnoegalemkbbbaaGreatDoor
open Go.Proofs.Tryz
open Go.Eng
theorem Am7(s:A0)(w:World)(hg:Gl w)(n:GW s)(D:len s<=4194304):Calls prog 289 [str s].toArray w λ e w'=>e= .returned (str (P3 s))/\Ext w w':=by
 have q:=A6 s
 have y:=A6 (I2 s)
 obtain⟨h,z⟩:=tQ 57 s
 have k:len (I2 s)<=len s:=h
 have F:=OD (len s-len (I2 s)) Aa
 refine AE A8 func289 U ntmps289 [] [] [.v (str s)] U (BB w) A3 (λ B l=>AB (u:=str (I2 s)) U call304 U U (λ _ w M b=>dL s [57] w Aa Ab (Z6 Ab)) U <|AB (u:=str (B7 (len s-len (I2 s)))) U call291 U U (λ _ w M b=>gN _ w Aa Aa) U ?_) U
 refine A1 U (λ h1=>?_) (λ h1=>?_)<;>simp only[zb]at h1
 ·exact A2 l U U (hO:=by simp only[AH,len_nil];and_intros<;>first|omega|trivial) U λ w M b=>⟨by unfold P3;rw[if_pos h1];rfl,b.st.low⟩
 have A:=n.at (i:=len (I2 s)-1) Aa Aa
 have C:=FL (s:=s) (i:=0) (j:=len (I2 s)-1) Aa Aa Aa
 refine DQ U BI Ac <|Z1 (.v (str (DI (A4 s (len (I2 s)-1)+1)))) U U (λ w M b=>PV.bM (AF (v:=.v (.int .i32 (A4 s (len (I2 s)-1)+1))) (E:=[]) U) underlying21 underlying9) ?_
 rw[tO Aa]
 exact DR U (hO:=by simp only[AN,AH,len_nil];and_intros<;>first|omega|trivial) <|A2 l U U U λ w M b=>⟨by unfold P3;rw[if_neg h1];rfl,b.st.low⟩
theorem Am8(s:A0)(w:World)(hg:Gl w)(l:GW s)(C:len s<=4194304)(hp:0<len (BC s)):Calls prog 290 [str s].toArray w λ e w'=>e= .returned (str (P4 s))/\Ext w w':=by
 have n:=A6 s
 obtain⟨h,q⟩:=tQ 48 s
 have k:len (BC s)<=len s:=h
 have D:len (P2 (len s-len (BC s)))=len s-len (BC s):=by unfold P2 len;rw[List.length_replicate];unfold len at*;omega
 refine AE A8 func290 U ntmps290 [] [] [.v (str s)] U (BB w) A3 (λ B y=>AB (u:=str (BC s)) U call304 U U (λ _ w M b=>dL s [48] w Aa Ab (Z6 Ab)) U ?_) U
 have z:=l.at (i:=len (BC s)-1) Aa Aa
 have A:=FL (s:=s) (i:=0) (j:=len (BC s)-1) Aa Aa Aa
 refine DQ U BI Ac <|Z1 (.v (str (DI (A4 s (len (BC s)-1)-1)))) U U (λ w M b=>PV.bM (AF (v:=.v (.int .i32 (A4 s (len (BC s)-1)-1))) (E:=[]) U) underlying21 underlying9) ?_
 rw[tO Aa]
 exact EZ (u:=str (P2 (len s-len (BC s)))) U (hO:=by simp only[AN,AH,len_nil];and_intros<;>first|omega|trivial) call291 U U (λ _ w M b=>mZ 57 _ w Aa Aa) U <|DR U (hO:=by simp only[AN,AH,len_nil];and_intros<;>first|omega|trivial) <|A2 y U U U λ w M b=>⟨rfl,b.st.low⟩
theorem Am9(c:Nd)(b:Bool)(w:World)(hg:Gl w)(F:QY c):Calls prog 266 [EH c,.bool b].toArray w λ e w'=>e= .returned (.tuple #[EH (NT c b).1,.bool (NT c b).2])/\Ext w w':=by
 have T:=A6 c.s
 have V:=F.len
 have W:=F.e
 refine AE A8 func266 U ntmps266 [] [] [CU c,.v (.bool b)] U (BB w) A3 (λ B Q=>BO 2 U U U λ G=>AZ 4 U zeroValue46 U λ H=>?_) U
 refine A1 U (λ h1=>?_) (λ h1=>?_)<;>simp only[zb]at h1
 ·refine AB U call288 U U (λ _ w M l=>VR (!b) [49] (-1000) w (hg.low l.st.low) Ab) U <|AZ 6 U zeroValue46 U λ b6=>A2 Q U U U λ w M l=>⟨?_,l.st.low⟩
  unfold NT P6;rw[if_pos h1];rfl
 refine DQ U BI Ac <|DR U ?_
 refine CZ 0 (λ s=> ∃(f:FuncId) (S:A0->A0) (top:Int),CT prog f/\(∀k w,Gl w->0<=k->k<=2000->Calls prog f [str (c.s++B7 k)].toArray w λ e w'=>e= .returned (str (S (c.s++B7 k)))/\Ext w w')/\S=(if c.neg=b then P4 else P3)/\(∀s,len (S s)<=2*len s+2)/\top=len c.s+c.e-(if c.neg=b/\c.s=[49]then 1 else 0)/\
    s=⟨[],[(2,ER G c),(4,ER H (DE 0))],[Z 2 (.bx 2 G 0),Z 4 (.bx 4 H 0),Z 5 (.v (.bool false)),Z 8 (.v (.func (.func f) #[] #[])),Z 9 (I top)]⟩) U U (λ K=>?_) (λ K=>?_) ?_
 ·have n:c.neg=b:=by simpa using K
  have hd: ∀k w,Gl w->0<=k->k<=2000->Calls prog 290 [str (c.s++B7 k)].toArray w λ e w'=>e= .returned (str (P4 (c.s++B7 k)))/\Ext w w':=λ k w hg h0 L=>Am8 _ w hg (i7 F.fig k) (by rw[AN,OD k h0];omega) (tV h1 (F.trim h1) k)
  refine A1 U (λ J=>?_) (λ J=>?_)<;>simp only[zb]at J
  ·exact AQ _ U U ⟨290,P4,_,call290,hd,by rw[if_pos n],tT,by rw[if_pos ⟨n,J⟩],rfl⟩
  ·exact AQ _ U U ⟨290,P4,_,call290,hd,by rw[if_pos n],tT,by rw[if_neg (λ q=>J q.2)];omega,rfl⟩
 ·have n: ¬c.neg=b:=by simpa using K
  exact AQ _ U U ⟨289,P3,_,call289,λ k w hg h0 L=>Am7 _ w hg (i7 F.fig k) (by rw[AN,OD k h0];omega),by rw[if_neg n],Am6,by rw[if_neg (λ q=>n q.1)];omega,rfl⟩
 rintro _ ⟨f,S,top,C,hS,N,O,y,rfl⟩
 have X: -1001<=top/\top<=1000:=by rw[y];split<;>omega
 have D:=tX y
 obtain⟨z,R⟩: ∃z,z=P5 c b:=⟨_,rfl⟩
 rw[<-R]at D
 have hzb: -1000<=z/\z<=c.e:=by rw[<-D,y];split<;>split<;>omega
 refine AU (I z) U U (λ w M l=>by rw[<-D];exact PV.max2 (AF (v:=I (top-100)) (E:=[]) U) (AF (v:=I (-1000)) (E:=[]) U)) ?_
 have P:P6 c b=CL c.neg (S (c.s++B7 (c.e-z))) z:=by unfold P6;rw[if_neg h1,N,<-R]
 have A:=OD (c.e-z) Aa
 have hSl:len (S (c.s++B7 (c.e-z)))<=10000:=by have:=O (c.s++B7 (c.e-z));rw[AN,A]at this;omega
 refine xsj 3 (λ s=> ∃i,s=⟨[],[(2,ER G c),(4,ER H (DE 0)),(11,ER i (CL c.neg (S (c.s++B7 (c.e-z))) z).1)],[Z 2 (.bx 2 G 0),Z 4 (.bx 4 H 0),Z 5 (.v (.bool false)),Z 11 (.bx 11 i 0),Z 12 (I (CL c.neg (S (c.s++B7 (c.e-z))) z).2)]⟩) U ?_ ?_
 ·refine EJ [9,11,13,17,18] 6 (λ _ _ _ _ _ h=>h) U BI Ac <|H3 9 17 U U U ?_ ?_
  ·refine AB U call291 U U (λ _ w M l=>gN _ w Aa Aa) U <|AI U <|H3 11 17 U U U ?_ ?_
   ·refine AY [] (λ _:Unit=>.v (str (S (c.s++B7 (c.e-z))))) [] (λ _=>[]) (Fg:=λ _=>[]) (pu:=λ _=>True) U (hO:=by simp only[A]<;>omega) U C U U (λ w M j hF=>(hS (c.e-z) w (hg.low j.low) Aa Aa).mono λ e w' ⟨he,hx⟩=>⟨(),M,he,trivial,Mem.le.refl _,j.ext hx,A3⟩) λ _ _=>AI U <|H3 13 17 U U U ?_ ?_
    ·exact AB U call288 U U (λ _ w M l=>VR c.neg (S (c.s++B7 (c.e-z))) z w (hg.low l.st.low) Aa) U <|AI U <|AL 17 U U U <|AZ 11 U zeroValue46 U λ i=>AI U <|AL 18 U U U <|AI U <|BV U U U <|AQ _ U U ⟨i,rfl⟩
    ·exact AZ 11 U zeroValue46 U λ i=>AI U <|AL 13 U U U <|AB U call288 U U (λ _ w M l=>VR c.neg (S (c.s++B7 (c.e-z))) z w (hg.low l.st.low) Aa) U <|AI U <|AL 18 U U U <|AI U <|BV U U U <|AQ _ U U ⟨i,rfl⟩
   ·exact AZ 11 U zeroValue46 U λ i=>AI U <|AL 11 U U U <|AY [] (λ _:Unit=>.v (str (S (c.s++B7 (c.e-z))))) [] (λ _=>[]) (Fg:=λ _=>[]) (pu:=λ _=>True) U (hO:=by simp only[A]<;>omega) U C U U (λ w M j hF=>(hS (c.e-z) w (hg.low j.low) Aa Aa).mono λ e w' ⟨he,hx⟩=>⟨(),M,he,trivial,Mem.le.refl _,j.ext hx,A3⟩) λ _ _=>AI U <|AL 13 U U U <|AB U call288 U U (λ _ w M l=>VR c.neg (S (c.s++B7 (c.e-z))) z w (hg.low l.st.low) Aa) U <|AI U <|AL 18 U U U <|AI U <|BV U U U <|AQ _ U U ⟨i,rfl⟩
  ·exact AZ 11 U zeroValue46 U λ i=>AI U <|AL 9 U U U <|AB U call291 U U (λ _ w M l=>gN _ w Aa Aa) U <|AI U <|AL 11 U U U <|AY [] (λ _:Unit=>.v (str (S (c.s++B7 (c.e-z))))) [] (λ _=>[]) (Fg:=λ _=>[]) (pu:=λ _=>True) U (hO:=by simp only[A]<;>omega) U C U U (λ w M j hF=>(hS (c.e-z) w (hg.low j.low) Aa Aa).mono λ e w' ⟨he,hx⟩=>⟨(),M,he,trivial,Mem.le.refl _,j.ext hx,A3⟩) λ _ _=>AI U <|AL 13 U U U <|AB U call288 U U (λ _ w M l=>VR c.neg (S (c.s++B7 (c.e-z))) z w (hg.low l.st.low) Aa) U <|AI U <|AL 18 U U U <|AI U <|BV U U U <|AQ _ U U ⟨i,rfl⟩
 ·rintro _ ⟨i,rfl⟩
  refine A2 Q U U U λ w M l=>⟨?_,l.st.low⟩
  unfold NT;rw[P];rfl
end Go.Proofs.YtnoegalemkbbbaaGreatDoor
namespace Go.Eng
open Go.RowKit
theorem An0{c:Cx}{B:Exit->Act->World->Prop}{k:List Fr}{m:Md}{s:XS}(s2:XS)(h0:(⟨JD s2.F s.F,JE s2.H s.H,GH (keys s2.L) s.L⟩:XS)=s2)(b:XG c B k m s2):XG c B k m s:=λ a w e=>b a w (e.sub (XS.N9 h0))
def I3:List Nd:=[DE 0,DE 1,DE 2,DE 3]
theorem An1(a:Tm):len (HE a)<=2:=by
 unfold HE;split<;>simp only[AH,len_nil]<;>omega
theorem LP{α β:Type}(f:α->List β)(l:List α)(x:α):(l++[x]).flatMap f=l.flatMap f++f x:=by simp
theorem An2(l:List Tm):DW l=I3++l.flatMap NU++[DE 4]++l.flatMap HE:=rfl
def tY(b:Bool):List Value:=[.bool b]
end Go.Eng
namespace Go.Proofs.YtnoegalemkbbbaaGreatDoor
open Go.Proofs.Tryz
open Go.Eng
theorem An3{w0 w:World}{M0 M:Mem}{T:HO}{Rs:List HO}{b:Nat}{v:Value}{l:List Tm}(hg:Gl w0)(hl:(kn v 7 l BP).ok M)(hb:len l<=16777216)(hn: ∀a∈l,a.c.kind=3->QY a.c)(hs: ∀a∈l,len a.c.s<=1048576):
    SS prog 265 [.pointer (some ⟨b,0,none⟩)] (DW l).length w0 M0 (T:: .box b [v] 79::Rs)
     (λ k (_:Unit)=>[CU (at' (DW l) (k:Int))]) (λ _ _=>True) (λ _ _=>[]) w M:=by
 intro γ ub I' J Hy V W g0 ⟨G,H,K,L,N,hx⟩ hS hF hI hy
 have hl0:=A6 l
 have hS2:St w0 M0 w M (.box b [v] 79::G g0::H g0::K g0::L g0::N g0::(T::Rs)):=by
  rw[hx]at hS
  exact hS.perm (List.perm_middle (l₁:=[G g0,H g0,K g0,L g0,N g0,T])).symm
 refine YZ (Hr:=T::Rs) A8 func265 rfl ntmps265 rfl (λ w h=>by obtain⟨g,M',h,_⟩:=h;cases h) [(10,kn v 7 l BP),(9,IF (V g0))] [(0,.box b [.sl 10 v] 79),(1,.ho (G g0)),(2,.ho (H g0)),(3,.ho (K g0)),(4,.ho (L g0)),(5,.ho (N g0))] [.v (.func (.yield W) #[] #[]),.bx 0 b 0] rfl hS2 (AA hl (AA ⟨Sl.nil M 1,FY,hF⟩ A3)) (λ B hB=>B9 13 I3 Nd.cells 6 46 Nd.AO U U Ah U λ u0=>?_) rfl
 refine AT (σ:=Int×Value×List Nd) (λ(k,u,y)=>⟨[(10,kn v 7 l BP),(13,kn u 6 y Nd.cells),(9,IF (V g0))],[(0,.box b [.sl 10 v] 79),(13,.ho (.own 46 6 u y.length (y.flatMap Nd.cells))),(1,.ho (G g0)),(2,.ho (H g0)),(3,.ho (K g0)),(4,.ho (L g0)),(5,.ho (N g0))],[Z 0 (.v (.func (.yield W) #[] #[])),Z 1 (.bx 0 b 0),Z 3 (.sl 13 u),Z 19 (.sl 10 v),Z 20 (I (len l)),Z 21 (I k)]⟩)
  (λ(k,u,y)=>0<=k/\k<=len l/\y=I3++(Eng.sub l 0 k).flatMap NU/\len y<=4+3*k) (λ(k,u,y)=>(len l-k).toNat) (0,u0,I3) U U ⟨Aa,Aa,by show I3=I3++[];rw[List.append_nil],Ab⟩ ?_
 rintro⟨k,u,y⟩ ⟨h0,h1,P,hy2⟩
 refine A1 U (λ j=>?_) (λ j=>?_)<;>simp only[zb]at j
 ·obtain⟨a,F⟩: ∃a,a=at' l k:=⟨_,rfl⟩
  have X:a∈l:=by rw[F];exact at_mem h0 j
  have D:=HQ h0 j
  rw[<-F]at D
  refine AZ 50 U zeroValue113 U λ b5=>?_
  refine A1 U (λ q=>?_) (λ q=>?_)<;>simp only[zb]at q<;>rw[<-F]at q
  ·refine AR (k+1,u,y) U U ⟨Aa,Aa,?_,Aa⟩ Ag
   rw[D,LP,show NU a=[]from by unfold NU;rw[if_neg q],List.append_nil];exact P
  have Q:a.c.kind=3:=by omega
  have hnb:=hn a X Q
  refine B9 32 [(at' l k).c] Nd.cells 6 46 Nd.AO U U Ah U λ v32=>EC 64 U U U underlying32 type46 U U Nd.cells_one (by simp only[AH,len_nil];omega) λ v1=>B9 34 [true,false] tY 1 4 (λ _=>rfl) U U Ah U λ v34=>?_
  refine AT (σ:=Int×Value×List Nd) (λ(i,u,z)=>⟨[(10,kn v 7 l BP),(13,kn u 6 z Nd.cells),(34,kn v34 1 [true,false] tY),(9,IF (V g0))],[(0,.box b [.sl 10 v] 79),(13,.ho (.own 46 6 u z.length (z.flatMap Nd.cells))),(50,.box b5 [I (at' l k).n,I (at' l k).c.kind,I (at' l k).c.many,.v (str (at' l k).c.name),.v (str (at' l k).c.s),.v (.bool (at' l k).c.neg),I (at' l k).c.e] 113),(1,.ho (G g0)),(2,.ho (H g0)),(3,.ho (K g0)),(4,.ho (L g0)),(5,.ho (N g0))],[Z 0 (.v (.func (.yield W) #[] #[])),Z 1 (.bx 0 b 0),Z 3 (.sl 13 u),Z 5 (.bx 50 b5 0),Z 19 (.sl 10 v),Z 20 (I (len l)),Z 21 (I k),Z 34 (.sl 34 v34),Z 35 (I 2),Z 36 (I i)]⟩)
   (λ(i,u,z)=>0<=i/\i<=2/\z=y++[a.c]++(Eng.sub [true,false] 0 i).flatMap (MU a.c)/\len z<=5+3*k+i) (λ(i,u,z)=>(2-i).toNat) (0,v1,y++[(at' l k).c]) U U ⟨Aa,Aa,by rw[<-F];simp[Eng.sub],by rw[AN];simp only[AH,len_nil];omega⟩ ?_
  rintro⟨i,u,z⟩ ⟨hi0,hi1,C,hz2⟩
  have hl2:len [true,false]=2:=rfl
  refine A1 U (λ E=>?_) (λ E=>?_)<;>simp only[zb]at E
  ·have hs2:=HQ (l:=[true,false]) hi0 (by rw[hl2];exact E)
   refine AB U call266 U U (λ _ w M R=>Am9 (at' l k).c (at' [true,false] i) w (hg.low R.st.low) (by rw[<-F];exact hnb)) U <|AZ 8 U zeroValue46 U λ b8=>A1 U (λ O=>?_) (λ O=>?_)
   ·refine B9 51 [(NT (at' l k).c (at' [true,false] i)).1] Nd.cells 6 46 Nd.AO U U Ah U λ v50=>EC 64 U U U underlying32 type46 U U Nd.cells_one (by simp only[AH,len_nil];omega) λ v2=>AR (i+1,v2,z++[(NT (at' l k).c (at' [true,false] i)).1]) U U ⟨Aa,Aa,?_,by rw[AN];simp only[AH,len_nil];omega⟩ Ag
    rw[hs2,LP,<-F,<-List.append_assoc,<-C]
    rw[<-F]at O
    unfold MU;rw[if_pos O]
   ·refine AR (i+1,u,z) U U ⟨Aa,Aa,?_,Aa⟩ Ag
    rw[hs2,LP]
    rw[<-F]at O
    rw[show MU a.c (at' [true,false] i)=[]from by unfold MU;rw[if_neg (by rw[O];decide)],List.append_nil];exact C
  ·have hi2:i=2:=by omega
   subst hi2
   refine AR (k+1,u,z) U U ⟨Aa,Aa,?_,Aa⟩ Ag
   rw[D,LP,show NU a=[a.c]++MU a.c true++MU a.c false from by unfold NU;rw[if_pos Q],C,P]
   simp[Eng.sub]
 have hke:k=len l:=by omega
 subst hke
 rw[ID (Int.le_refl _)]at P
 refine B9 56 [DE 4] Nd.cells 6 46 Nd.AO U U Ah U λ v56=>EC 64 U U U underlying32 type46 U U Nd.cells_one (by simp only[AH,len_nil];omega) λ v57=>?_
 refine AT (σ:=Int×Value×List Nd) (λ(k,u,z)=>⟨[(10,kn v 7 l BP),(13,kn u 6 z Nd.cells),(9,IF (V g0))],[(0,.box b [.sl 10 v] 79),(13,.ho (.own 46 6 u z.length (z.flatMap Nd.cells))),(1,.ho (G g0)),(2,.ho (H g0)),(3,.ho (K g0)),(4,.ho (L g0)),(5,.ho (N g0))],[Z 0 (.v (.func (.yield W) #[] #[])),Z 3 (.sl 13 u),Z 58 (.sl 10 v),Z 59 (I (len l)),Z 60 (I k)]⟩)
  (λ(k,u,z)=>0<=k/\k<=len l/\z=I3++l.flatMap NU++[DE 4]++(Eng.sub l 0 k).flatMap HE/\len z<=5+3*len l+2*k) (λ(k,u,z)=>(len l-k).toNat) (0,v57,y++[DE 4]) U U ⟨Aa,Aa,by rw[P];simp[Eng.sub],by rw[AN];simp only[AH,len_nil];omega⟩ ?_
 rintro⟨k,u,z⟩ ⟨hk0,hk1,C,hz2⟩
 refine A1 U (λ j=>?_) (λ j=>?_)<;>simp only[zb]at j
 ·obtain⟨a,F⟩: ∃a,a=at' l k:=⟨_,rfl⟩
  have X:a∈l:=by rw[F];exact at_mem hk0 j
  have D:=HQ hk0 j
  rw[<-F]at D
  have hsa:=hs a X
  refine AZ 50 U zeroValue113 U λ b11=>?_
  refine A1 U (λ q=>?_) (λ q=>?_)<;>simp only[zb]at q<;>rw[<-F]at q
  ·refine B9 76 [(at' l k).c,⟨4,0,[],(at' l k).c.s++[0],false,0⟩] Nd.cells 6 46 Nd.AO U (hO:=by rw[<-F];simp only[AH,len_nil];and_intros<;>first|omega|trivial) U Ah U λ v76=>EC 64 U U U underlying32 type46 U U Nd.cells_one (by simp only[AH,len_nil];omega) λ v77=>AR (k+1,v77,z++[(at' l k).c,⟨4,0,[],(at' l k).c.s++[0],false,0⟩]) U U ⟨Aa,Aa,?_,by rw[AN];simp only[AH,len_nil];omega⟩ Ag
   rw[D,LP,<-List.append_assoc,<-C,<-F,show HE a=[a.c,⟨4,0,[],a.c.s++[0],false,0⟩]from by unfold HE;rw[if_pos q]]
  ·refine AR (k+1,u,z) U U ⟨Aa,Aa,?_,Aa⟩ Ag
   rw[D,LP,show HE a=[]from by unfold HE;rw[if_neg q],List.append_nil];exact C
 have hke:k=len l:=by omega
 subst hke
 rw[ID (Int.le_refl _),<-An2]at C
 subst C
 have hcl:len (DW l)=((DW l).length:Int):=rfl
 refine AT (σ:=Nat×γ) (λ(k,g)=>⟨[(13,kn u 6 (DW l) Nd.cells),(9,IF (V g))],[(0,.box b [.sl 10 v] 79),(1,.ho (G g)),(2,.ho (H g)),(3,.ho (K g)),(4,.ho (L g)),(5,.ho (N g))],[Z 0 (.v (.func (.yield W) #[] #[])),Z 79 (.sl 13 u),Z 80 (I (len (DW l))),Z 81 (I k)]⟩) (λ(k,g)=>k<=(DW l).length/\I' k g) (λ(k,g)=>(DW l).length-k) (0,g0) U U ⟨Nat.zero_le _,hI⟩ ?_
 rintro⟨k,g⟩ ⟨hk,hIk⟩
 refine A1 U (λ j=>?_) (λ j=>?_)<;>simp only[zb]at j
 ·have hk2:k<(DW l).length:=by omega
  refine AZ 50 U zeroValue46 U λ b13=>C5 U Ad Ae <|An0 ⟨[(13,kn u 6 (DW l) Nd.cells),(9,IF (V g))],[(0,.box b [.sl 10 v] 79),(1,.ho (G g)),(2,.ho (H g)),(3,.ho (K g)),(4,.ho (L g)),(5,.ho (N g))],[Z 0 (.v (.func (.yield W) #[] #[])),Z 79 (.sl 13 u),Z 80 (I (len (DW l))),Z 81 (I k),Z 85 (.v (.func (.yield W) #[] #[])),Z 86 (CU (at' (DW l) (k:Int)))]⟩ U <|sH (λ A=>[(1,.ho (G A)),(2,.ho (H A)),(3,.ho (K A)),(4,.ho (L A)),(5,.ho (N A))]) ub [1,2,3,4,5] (γ:=γ) (pu:=λ g=>if ub g=true then I' (k+1) g else J g) (Fg:=λ A=>[(9,IF (V A))]) (Hg:=Hy) [9] U U U U U (λ w' M' hS' hF' hle=>?_) (hH:=λ A=>by rw[hx];rfl) λ A S=>?_
  ·have hp:(Hy g++(T:: .box b [v] 79::Rs)).Perm (G g::H g::K g::L g::N g:: .box b [v] 79::T::Rs):=by
    rw[hx]
    exact((((((List.Perm.swap _ _ _).cons _).cons _).cons _).cons _).cons _)
   obtain⟨fn,tt',asg,bd,e1,e2⟩:=hy k g () w' M' hk2 hIk trivial (hS'.perm hp) hle (λ x h=>by cases h) (hF'.get (k:=9) rfl).more
   refine⟨fn,tt',asg,bd,e1,e2.mono λ e w2 h=>?_⟩
   obtain⟨A,M2,r1,r2,r3,r4,r5⟩:=h
   refine⟨A,M2,r1,r2,r3,?_,AA ⟨Sl.nil M2 1,FY,r5⟩ A3⟩
   exact r4.perm (List.Perm.append_left _ (List.Perm.swap _ _ _))
  ·refine A1 U (λ E=>?_) (λ E=>?_)
   ·rw[if_neg (by simpa using E)]at S
    refine A2 hB U U U λ w' M' R=>⟨A,M',rfl,.inr S,R.le,R.st.perm ?_,(R.f.get (k:=9) U).more⟩
    rw[hx]
    exact List.Perm.append_left [G A,H A,K A,L A,N A] (List.Perm.swap _ _ _)
   ·rw[if_pos (by simpa using E)]at S
    exact AR (k+1,A) U U ⟨hk2,S⟩ (by show(DW l).length-(k+1)<(DW l).length-k;omega)
 ·have Q:k=(DW l).length:=by omega
  refine WW hB U U λ w' M' R=>⟨g,M',rfl,.inl (by rw[<-Q];exact hIk),R.le,R.st.perm ?_,(R.f.get (k:=9) U).more⟩
  rw[hx]
  exact List.perm_middle (l₁:=[G g,H g,K g,L g,N g,T])
end Go.Proofs.YtnoegalemkbbbaaGreatDoor
namespace Go.Eng
open Go.RowKit
theorem tZ{α:Type}[Inhabited α]{p:α->Bool}{l:List α}{k:Nat}(n:k<l.length)(b: ∀x∈l.take k,p x=false)(h:p (at' l (k:Int))=true):l.find? p=some (at' l (k:Int)):=by
 obtain⟨h1,j⟩:=DB l (i:=(k:Int)) Aa (by unfold len;omega)
 have e:l=l.take k++(at' l (k:Int)::l.drop (k+1)):=by
  rw[j];simp
 rw[e,List.find?_append,List.find?_eq_none.2 (λ x hx=>by rw[b x hx];decide)]
 simp[h,<-e]
theorem u3{α:Type}{p:α->Bool}{l:List α}(b: ∀x∈l.take l.length,p x=false):l.find? p=none:=by
 rw[List.take_length]at b
 exact List.find?_eq_none.2 λ x hx=>by rw[b x hx];decide
theorem u4{α:Type}[Inhabited α]{p:α->Bool}{l:List α}{k:Nat}(e:k<l.length)(b: ∀x∈l.take k,p x=false)(h:p (at' l (k:Int))=false): ∀x∈l.take (k+1),p x=false:=by
 obtain⟨h1,j⟩:=DB l (i:=(k:Int)) Aa (by unfold len;omega)
 rw[j]at h
 intro x hx
 rw[List.take_add_one]at hx
 rcases List.mem_append.1 hx with hx|hx
 ·exact b x hx
 ·simp[e]at hx;subst hx;simpa using h
abbrev P7(a:Nd):Prop:=len a.s<=1048576/\ -1048576<=a.e/\a.e<=1048576
theorem iA(neg:Bool)(s:A0)(e:Int)(h:(CL neg s e).2=0):P7 (CL neg s e).1:=by
 unfold CL at h ⊢
 split at h
 ·rw[if_pos (by assumption)]
  split at h
  ·rw[if_pos (by assumption)];exact⟨Ab,Ab,Ab⟩
  ·rw[if_neg (by assumption)]
   split at h
   ·simp at h
   ·rw[if_neg (by assumption)]
    split at h
    ·simp at h
    ·rename_i b
     rw[if_neg b]
     simp only[Bool.or_eq_true,decide_eq_true_eq,not_or]at b
     have:=A6 (BC (AS s))
     exact⟨by show len (BC (AS s))<=_;omega,by show-1048576<=e+_;omega,by show e+_<=1048576;omega⟩
 ·simp at h
theorem An4{l:List Tm}(j: ∀a∈l,P7 a.c)(q: ∀a∈l,len a.c.s<=1000000): ∀x∈DW l,P7 x:=by
 have z: ∀k,P7 (DE k):=λ k=>⟨by show len ([]:A0)<=_;decide,by show(-1048576:Int)<=0;decide,by show(0:Int)<=_;decide⟩
 have h: ∀(c:Nd) (b:Bool),∀x∈MU c b,P7 x:=λ c b x hx=>by
  unfold MU at hx
  split at hx
  ·rename_i n
   rw[List.mem_singleton.1 hx]
   have e:(P6 c b).2=0:=by unfold NT at n;simpa using n
   show P7 (P6 c b).1
   unfold P6 at e ⊢
   split at e
   ·rw[if_pos (by assumption)];exact iA _ _ _ e
   ·rw[if_neg (by assumption)];exact iA _ _ _ e
  ·cases hx
 intro x hx
 rw[DW]at hx
 simp only[List.mem_append,List.mem_cons,List.not_mem_nil,or_false,List.mem_flatMap]at hx
 rcases hx with((hx|⟨a,i,hx⟩)|hx)|⟨a,i,hx⟩
 ·rcases hx with rfl|rfl|rfl|rfl<;>exact z _
 ·unfold NU at hx
  split at hx
  ·simp only[List.mem_append,List.mem_singleton]at hx
   rcases hx with(rfl|hx)|hx
   ·exact j a i
   ·exact h _ _ _ hx
   ·exact h _ _ _ hx
  ·cases hx
 ·rw[hx];exact z _
 ·unfold HE at hx
  split at hx
  ·simp only[List.mem_cons,List.not_mem_nil,or_false]at hx
   rcases hx with rfl|rfl
   ·exact j a i
   ·have:=q a i
    exact⟨by show len (a.c.s++[0])<=_;rw[AN];simp only[AH,len_nil];omega,by show(-1048576:Int)<=0;decide,by show(0:Int)<=_;decide⟩
  ·cases hx
structure ZC (a:Tm):Prop where
 num:a.c.kind=3->QY a.c
 s:len a.c.s<=1000000
 e: -1048576<=a.c.e/\a.c.e<=1048576
theorem An5{mask:Int}{l:List Tm}{k:Nat}(e:k<(DW l).length)(b: ∀x∈(DW l).take k,NS mask l x=false)(h:NS mask l (at' (DW l) (k:Int))=true):IK mask l=(at' (DW l) (k:Int),true):=by
 unfold IK;rw[tZ e b h]
theorem An6{mask:Int}{l:List Tm}(b: ∀x∈(DW l).take (DW l).length,NS mask l x=false):IK mask l=(DE 0,false):=by
 unfold IK;rw[u3 b]
end Go.Eng
namespace Go.Proofs.YtnoegalemkbbbaaGreatDoor
open Go.Proofs.Tryz
open Go.Eng
theorem An7{w0 i:World}{M0 M:Mem}{Rs:List HO}{v:Value}{l:List Tm}(hS:St w0 M0 i M Rs)(hl:(kn v 7 l BP).ok M):
  Calls prog 239 [v].toArray i (BY w0 M0 M Rs (λ b:Nat=>.func (.func 265) #[] #[.pointer (some ⟨b,0,none⟩)]) (λ _=>True) (λ _=>[]) λ b=>[.box b [v] 79]):=AE (Hr:=Rs) A8 func239 U ntmps239 [(0,kn v 7 l BP)] [] [.sl 0 v] U hS (AA hl A3) (λ B j=>BO 1 U U U λ b=>AU (.v (.func (.func 265) #[] #[.pointer (some ⟨b,0,none⟩)])) U U (λ w M e=>PV.makeFunc (xs:=[]) (ys:=[.tmp 1]) (vs:=[]) (us:=[.pointer (some ⟨b,0,none⟩)]) trivial ⟨AF (v:=.bx 1 b 0) (E:=[]) U,trivial⟩) <|A2 j rfl rfl rfl λ w' M' e=>⟨b,M',rfl,trivial,e.le,e.st,λ x h=>by cases h⟩) U
theorem iB{w0 N:World}{M0 M:Mem}{Rs:List HO}(mask:Int)(v:Value)(l:List Tm)(hS:St w0 M0 N M Rs)(hg:Gl w0)(hl:(kn v 7 l BP).ok M)(P:len l<=16777216)(i: ∀a∈l,ZC a)(hm:0<=mask/\mask<=31):
    Calls prog 206 [i64 mask,v].toArray N (BY w0 M0 M Rs (λ _:Unit=>.tuple #[EH (IK mask l).1,.bool (IK mask l).2]) (λ _=>True) (λ _=>[]) λ _=>[]):=by
 have H:=An4 (l:=l) (λ a h=>⟨by have:=(i a h).s;omega,(i a h).e.1,(i a h).e.2⟩) (λ a h=>(i a h).s)
 refine UK (Hr:=Rs) A8 func206 U ntmps206 [(0,kn v 7 l BP)] [] [I mask,.sl 0 v] U hS (AA hl A3) (λ B O=>BO 2 U U U λ q=>BO 3 U U U λ z=>AZ 4 U zeroValue46 U λ A=>AZ 5 U zeroValue4 U λ C=>AY [] (λ b:Nat=>.v (.func (.func 265) #[] #[.pointer (some ⟨b,0,none⟩)])) [] (λ b=>[(6,.box b [.sl 0 v] 79)]) U U call239 U U (λ w M hS hF=>An7 hS (hF.get (k:=0) U)) λ X _=>X8 [6] U U ?_) U
 refine gQ (σ:=Nd×Bool) (τ:=Unit) (λ g=>⟨[(0,kn v 7 l BP)],[(2,.box q [I mask] 3),(3,.box z [.sl 0 v] 79),(4,ER A g.1),(5,.box C [.v (.bool g.2)] 4)],[Z 2 (.bx 2 q 0),Z 3 (.bx 3 z 0),Z 4 (.bx 4 A 0),Z 5 (.bx 5 C 0)]⟩)
   (λ k g=>g=(DE 0,false)/\ ∀x∈(DW l).take k,NS mask l x=false) (λ g=>g=IK mask l) (DE 0,false)
   (λ k g y t=> ∃E,t=⟨[(0,kn v 7 l BP)],[(7,ER E (at' (DW l) (k:Int))),(2,.box q [I mask] 3),(3,.box z [.sl 0 v] 79),(4,ER A g.1),(5,.box C [.v (.bool g.2)] 4)],[Z 6 (.bx 7 E 0),Z 2 (.bx 2 q 0),Z 3 (.bx 3 z 0),Z 4 (.bx 4 A 0),Z 5 (.bx 5 C 0)]⟩)
   (λ _ _ _ _ h=>h) U U call265 U ⟨rfl,λ x hx=>by simp at hx⟩ (λ _=>rfl) ⟨_,_,_,_,λ _=>rfl⟩ (λ w M D w' F=>An3 hg (F.f.get (k:=0) U) P (λ a h=>(i a h).num) (λ a h=>by have:=(i a h).s;omega)) (λ _ _=>rfl)
   (λ k g y Q D r M J G hp=>?_) U (λ k g y Q D r M J G hp t R=>?_) U (λ D g a w G=>?_) (λ D g a w S=>?_)
 ·exact AZ 7 U zeroValue46 U λ E=>AQ _ U U ⟨E,rfl⟩
 ·obtain⟨E,rfl⟩:=R
  obtain⟨rfl,j⟩:=G
  have K:at' (DW l) (k:Int)∈DW l:=at_mem Aa (by unfold len;omega)
  exact AB U call240 U U (λ _ w M F=>Am3 mask v l (at' (DW l) (k:Int)) w M F.st.sat (hg.low F.st.low) (F.f.get (k:=0) U) Aa (λ a h=>⟨by have:=(i a h).s;omega,(i a h).e.1,(i a h).e.2⟩) (H _ K) hm) U <|A1 U (λ n=>VI _ U U ⟨(at' (DW l) (k:Int),true),rfl,(An5 J j n).symm⟩) (λ n=>AQ _ U U ⟨(DE 0,false),rfl,rfl,u4 J j n⟩)
 ·obtain⟨rfl,j⟩:=G
  have e:=An6 j
  refine X5 8 (λ _ _ _ _ h=>h) U (s:=⟨[(0,kn v 7 l BP)],[(2,.box q [I mask] 3),(3,.box z [.sl 0 v] 79),(4,ER A (DE 0)),(5,.box C [.v (.bool false)] 4)],[Z 2 (.bx 2 q 0),Z 3 (.bx 3 z 0),Z 4 (.bx 4 A 0),Z 5 (.bx 5 C 0)]⟩) ?_ a w
  refine sI O U U U U λ w' M' L T hle=>⟨(),M',by rw[e];rfl,trivial,hle,L.drop _ (List.sublist_append_right [_,_,_,_,_] _),A3⟩
 ·rintro V ⟨M',h1,h2,W⟩
  subst S
  show B .ret (D0 (IU D) a) w
  refine O.leave A8 h1 V U U λ w' h=>⟨(),M',rfl,trivial,W,h.drop _ (List.sublist_append_right [_,_,_,_,_] _),A3⟩
end Go.Proofs.YtnoegalemkbbbaaGreatDoor
namespace Go.Eng
open Go.RowKit
def VS(u:Tf):Bool:=if u.t.op=1 then(IK u.t.n (u.ps.map Tf.node)).2 else true
mutual
def VT:Tf->Bool
 | .mk t ps=>VS (.mk t ps)&&K8 ps
def K8:List Tf->Bool
 |[]=>true
 |x::l=>VT x&&K8 l
end
def LQ(x:Tf):Bool:=QV x&&VT x
theorem An8(a b:List Tf):K8 (a++b)=(K8 a&&K8 b):=by
 induction a with
 |nil=>simp[K8]
 |cons x a e=>rw[List.cons_append,K8,K8,e,Bool.and_assoc]
theorem An9(u:Tf)(us:List Tf):K8 (u::us)=(VS u&&K8 (u.ps++us)):=by
 cases u with|mk t ps=>rw[K8,VT,An8,Bool.and_assoc];rfl
theorem VU{o:Int}: ∀ {l:List Tf},FF o l=true-> ∀x∈l,D2 x=true/\(decide (x.t.op=9)==decide (o=1))=true
 |[],_,x,hx=>by cases hx
 |y::l,h,x,hx=>by
  rw[FF]at h
  simp only[Bool.and_eq_true]at h
  obtain⟨⟨⟨⟨⟨h1,_⟩,_⟩,b⟩,_⟩,e⟩:=h
  rcases List.mem_cons.1 hx with rfl|hx
  ·exact⟨b,h1⟩
  ·exact VU e x hx
theorem VV{u:Tf}(h:D2 u=true):HY u.node=true/\FF u.t.op u.ps=true:=by
 rw[gT]at h
 simp only[Bool.and_eq_true]at h
 exact⟨h.1.1,h.1.2⟩
theorem Ao0{t:Tm}(h:HY t=true)(ho:t.op=1):0<t.n/\t.n<=31:=by
 unfold HY IH at h
 rw[if_neg Aa,if_pos ho]at h
 simp only[Bool.and_eq_true,decide_eq_true_eq]at h
 exact⟨h.1.1.2,h.1.2⟩
theorem Ao1{t:Tm}(h:HY t=true)(ho:t.op=9):t.many=0/\NP t.n t.c=true:=by
 unfold HY IH at h
 rw[if_neg Aa,if_neg Aa,if_pos ho]at h
 simp only[Bool.and_eq_true,beq_iff_eq]at h
 exact h.1
theorem iC{u:Tf}(h:D2 u=true)(ho:u.t.op=1):(0<=u.t.n/\u.t.n<=31)/\ ∀x∈u.ps,x.ps=[]/\NP x.t.n x.t.c=true:=by
 obtain⟨h1,j⟩:=VV h
 have e:=Ao0 h1 ho
 refine⟨⟨by have:0<u.t.n:=e.1;omega,e.2⟩,λ x hx=>?_⟩
 obtain⟨k,i⟩:=VU j x hx
 rw[ho]at i
 have b:x.t.op=9:=by simpa using i
 obtain⟨l,q⟩:=Ao1 (VV k).1 b
 refine⟨?_,q⟩
 have s:len x.ps=0:=l
 exact List.eq_nil_of_length_eq_zero (by unfold len at s;omega)
theorem iD{l:List Tf}(h: ∀x∈l,x.ps=[]):AM l=l.map Tf.node:=by
 induction l with
 |nil=>rfl
 |cons x l b=>
  rw[AM,Tf.JL,h x (.head _),List.map_cons,b λ y e=>h y (.tail _ e)];rfl
theorem u5{f:Fl}{i:Int}{u:Tf}{us:List Tf}{R:Fl}(h:DD f (i+1) (u.ps++us) R)(b: ∀x∈u.ps,x.ps=[]):Eng.sub f (i+1) (i+1+len u.ps)=u.ps.map Tf.node:=by
 have h0:=h.1
 unfold Eng.sub
 rw[h.2,JK,iD b,List.append_assoc,show(i+1+len u.ps).toNat-(i+1).toNat=(u.ps.map Tf.node).length by unfold len at*;rw[List.length_map];omega,List.take_left]
theorem Ao2{c:Nd}(h:GL c=true)(b:c.kind<5): -1000<=c.e/\c.e<=1000:=by
 by_cases h3:c.kind=3
 ·have:=(tW h h3).e;omega
 ·unfold GL K5 at h
  simp only[Bool.and_eq_true]at h
  have h1:=h.1.1
  split at h1
  ·simp only[decide_eq_true_eq,Nd.mk.injEq]at h1;omega
  ·split at h1
   ·simp only[Bool.and_eq_true,decide_eq_true_eq,Nd.mk.injEq]at h1;omega
   ·split at h1
    ·omega
    ·cases h1
theorem u7{a:Tm}(h:NP a.n a.c=true)(b:len a.c.s<=1000000):ZC a:=by
 unfold NP at h
 simp only[Bool.and_eq_true,decide_eq_true_eq]at h
 have:=Ao2 h.2.2 h.2.1
 exact⟨λ e=>tW h.2.2 e,b,⟨Aa,Aa⟩⟩
end Go.Eng
namespace Go.Proofs.YtnoegalemkbbbaaGreatDoor
open Go.Proofs.Tryz
open Go.Eng
theorem uA{w0 A:World}{M0 M:Mem}{Rs:List HO}(v:Value)(f:Fl)(i:Int)(hS:St w0 M0 A M Rs)(hl:(A7 v f).ok M)(F:len f<=16777217)(h0:0<=i)(h1:i<len f)(hm:0<=(at' f i).many)(h:i+1+(at' f i).many<=len f):
   Calls prog 207 [v,i64 i].toArray A (BY w0 M0 M Rs (λ u:Value=>u) (λ _=>True) (λ u=>[(0,kn u 7 (Eng.sub f (i+1) (i+1+(at' f i).many)) BP)]) λ _=>[]):=by
 obtain⟨z,j⟩: ∃z,z=Eng.sub f (i+1) (i+1+(at' f i).many):=⟨_,rfl⟩
 have C:len z=(at' f i).many:=by rw[j,FL Aa Aa h];omega
 rw[<-j]
 refine AE (Hr:=Rs) A8 func207 U ntmps207 [(0,A7 v f)] [] [.sl 0 v,I i] U hS (AA hl A3) (λ B D=>HP (gd:=none) 19 (i+1) (i+1+(at' f i).many) U U U ⟨.i64,_,rfl,AG U⟩ ⟨.i64,_,rfl,AG U⟩ underlying25 sizeOf52 Aa U λ e=>?_) U
 rw[<-j]
 refine cX 5 5 113 7 BP P1 U <|AT (σ:=Int×Value×Fl) (λ(k,u,y)=>⟨[(19,A7 e z),(5,kn u 7 y BP)],[(5,.ho (.own 113 7 u y.length (y.flatMap BP)))],[Z 5 (.sl 5 u),Z 19 (.sl 19 e),Z 20 (I (len z)),Z 21 (I k)]⟩) (λ(k,u,y)=>0<=k/\k<=len z/\y=Eng.sub z 0 k/\len y=k) (λ(k,u,y)=>(len z-k).toNat) (0,.slice none 0 0,[]) U U ⟨Aa,Aa,rfl,rfl⟩ ?_
 rintro⟨k,u,y⟩ ⟨l,E,n,q⟩
 refine A1 U (λ b=>?_) (λ b=>?_)<;>simp only[zb]at b
 ·exact AZ 7 U zeroValue52 U λ G=>B9 31 [at' z k] BP 7 113 P1 U U Ah U λ v31=>EC 72 U U U underlying79 type113 U U gZ (by simp only[AH,len_nil];omega) λ v'=>AR (k+1,v',y++[at' z k]) U U ⟨Aa,Aa,by rw[n,HQ l b],by rw[AN,q];rfl⟩ Ag
 ·rw[ID Aa]at n
  subst n
  exact A2 D U U U λ w M' s=>⟨u,M',rfl,trivial,s.le,s.st.drop _ (List.sublist_cons_self _ _),AA (s.f.get (k:=5) U) A3⟩
theorem Ao3{w0 wv:World}{M0 M:Mem}{Rs:List HO}(v:Value)(x:Tf)(hS:St w0 M0 wv M Rs)(hg:Gl w0)(hl:(A7 v x.flat).ok M)(hb:len x.flat<=16777217)(hsm:QQ x.flat)(hsh: ∀t∈x.flat,len t.c.s<=1000000):
    Calls prog 175 [v].toArray wv (BY w0 M0 M Rs (λ _:Unit=>.bool (LQ x)) (λ _=>True) (λ _=>[]) λ _=>[]):=by
 have hlp:=x.D7
 refine AE (Hr:=Rs) A8 func175 U ntmps175 [(0,A7 v x.flat)] [] [.sl 0 v] U hS (AA hl A3) (λ B S=>AB U call205 U U (λ _ w M q=>Ai0 v x q.st.sat (hg.low q.st.low) (q.sl 0 U) hb hsm) U <|A1 U (λ h1=>?_) (λ h1=>?_)) U
 ·exact A2 S U U U λ w M' q=>⟨(),M',by unfold LQ;rw[show QV x=false by simpa using h1];rfl,trivial,q.le,q.C8 [] U,A3⟩
 have G:QV x=true:=by simpa using h1
 have hgq:LQ x=VT x:=by unfold LQ;rw[G,Bool.true_and]
 have hw:D2 x=true:=by unfold QV at G;simp only[Bool.and_eq_true]at G;exact G.1.1
 refine AT (σ:=Int×List Tf) (λ(i,us)=>⟨[(0,A7 v x.flat)],[],[Z 0 (.sl 0 v),Z 10 (.sl 0 v),Z 11 (I (len x.flat)),Z 12 (I i)]⟩) (λ(i,us)=>DD x.flat i us []/\LQ x=K8 us/\ ∀u∈us,D2 u=true) (λ(i,us)=>(len x.flat-i).toNat) (0,[x]) U U ⟨⟨Aa,by show x.flat=(x.flat++AM [])++[];simp[AM]⟩,by rw[hgq];show _=(VT x&&true);rw[Bool.and_true],λ u hu=>by rw[List.mem_singleton.1 hu];exact hw⟩ ?_
 rintro⟨i,us⟩ ⟨H,J,T⟩
 have V:=H.1
 refine A1 U (λ O=>?_) (λ O=>?_)<;>simp only[zb]at O
 ·cases us with
  |nil=>
   exfalso
   have X:=H.2
   have h3:(x.flat.drop i.toNat).length=0:=by rw[X];rfl
   rw[List.length_drop]at h3
   unfold len at O;omega
  |cons u us=>
  obtain⟨P,hq,j⟩:=H.step
  have A:(at' x.flat i).many=len u.ps:=by rw[hq]
  have hqo:(at' x.flat i).op=u.t.op:=by rw[hq]
  have C:(at' x.flat i).n=u.t.n:=by rw[hq]
  have hpn:=A6 u.ps
  have hfl:=j.LC Aa
  rw[JK,AN]at hfl
  have hfg:=KP u.ps
  have hfu:=A6 (AM us)
  have hfr:len ([]:Fl)=0:=rfl
  have W:=T u (.head _)
  have K: ∀z∈u.ps++us,D2 z=true:=λ z L=>by
   rcases List.mem_append.1 L with L|L
   · exact(VU (VV W).2 z L).1
   · exact T z (.tail _ L)
  have y:=An9 u us
  refine AZ 54 U zeroValue52 U λ b4=>?_
  refine A1 U (λ N=>?_) (λ N=>?_)<;>simp only[zb]at N<;>rw[hqo]at N
  ·refine AR (i+1,u.ps++us) U U ⟨j,?_,K⟩ Ag
   rw[J,y];unfold VS;rw[if_neg N,Bool.true_and]
  have Q:u.t.op=1:=by omega
  have D:=iC W Q
  have b:Eng.sub x.flat (i+1) (i+1+(at' x.flat i).many)=u.ps.map Tf.node:=by rw[A];exact u5 j λ z L=>(D.2 z L).1
  have E: ∀a∈u.ps.map Tf.node,ZC a:=λ a ha=>by
   obtain⟨z,L,rfl⟩:=List.mem_map.1 ha
   refine u7 (D.2 z L).2 (hsh z.node ?_)
   have X:z.node∈Eng.sub x.flat (i+1) (i+1+(at' x.flat i).many):=by rw[b];exact ha
   unfold Eng.sub at X
   exact List.mem_of_mem_drop (List.mem_of_mem_take X)
  have R:(IK (at' x.flat i).n (Eng.sub x.flat (i+1) (i+1+(at' x.flat i).many))).2=false->LQ x=false:=λ h=>by
   rw[b,C]at h
   rw[J,y];unfold VS;rw[if_pos Q,h];rfl
  have F:(IK (at' x.flat i).n (Eng.sub x.flat (i+1) (i+1+(at' x.flat i).many))).2=true->LQ x=K8 (u.ps++us):=λ h=>by
   rw[b,C]at h
   rw[J,y];unfold VS;rw[if_pos Q,h,Bool.true_and]
  have hml:len (u.ps.map Tf.node)=len u.ps:=by unfold len;rw[List.length_map]
  refine EJ [4,5,9,10] 5 (λ _ _ _ _ _ h=>h) U BI Ac <|H3 4 9 U U U ?_ ?_
  ·refine AY [] (λ u:Value=>.sl 25 u) [25] (λ _=>[]) (Fg:=λ u=>[(0,kn u 7 (Eng.sub x.flat (i+1) (i+1+(at' x.flat i).many)) BP)]) U U call207 U U (λ w M l hF=>uA v x.flat i l (hF.get (k:=0) U) hb V P (by rw[A];omega) (by rw[A];omega)) λ v25 _=>AI U <|H3 5 9 U U U ?_ ?_
   ·exact AY [] (λ _:Unit=>.tu [CU (IK (at' x.flat i).n (Eng.sub x.flat (i+1) (i+1+(at' x.flat i).many))).1,.v (.bool (IK (at' x.flat i).n (Eng.sub x.flat (i+1) (i+1+(at' x.flat i).many))).2)]) [] (λ _=>[]) (Fg:=λ _=>[]) U U call206 U U (λ w M l hF=>iB (at' x.flat i).n v25 (Eng.sub x.flat (i+1) (i+1+(at' x.flat i).many)) l hg (hF.get (k:=25) U) (by rw[b];omega) (by rw[b];exact E) (by rw[C];exact D.1)) λ _ _=>AI U <|AL 9 U U U <|AZ 55 U zeroValue46 U λ b5=>AI U <|AL 10 U U U <|AI U <|BV U U U <|A1 U (λ e=>A2 S U U U λ w M' q=>⟨(),M',by rw[R (by simpa using e)];rfl,trivial,q.le,q.C8 [] U,A3⟩) (λ e=>AR (i+1,u.ps++us) U U ⟨j,F (by simpa using e),K⟩ Ag)
   ·exact AZ 55 U zeroValue46 U λ b5=>AI U <|AL 5 U U U <|AY [] (λ _:Unit=>.tu [CU (IK (at' x.flat i).n (Eng.sub x.flat (i+1) (i+1+(at' x.flat i).many))).1,.v (.bool (IK (at' x.flat i).n (Eng.sub x.flat (i+1) (i+1+(at' x.flat i).many))).2)]) [] (λ _=>[]) (Fg:=λ _=>[]) U U call206 U U (λ w M l hF=>iB (at' x.flat i).n v25 (Eng.sub x.flat (i+1) (i+1+(at' x.flat i).many)) l hg (hF.get (k:=25) U) (by rw[b];omega) (by rw[b];exact E) (by rw[C];exact D.1)) λ _ _=>AI U <|AL 10 U U U <|AI U <|BV U U U <|A1 U (λ e=>A2 S U U U λ w M' q=>⟨(),M',by rw[R (by simpa using e)];rfl,trivial,q.le,q.C8 [] U,A3⟩) (λ e=>AR (i+1,u.ps++us) U U ⟨j,F (by simpa using e),K⟩ Ag)
  ·exact AZ 55 U zeroValue46 U λ b5=>AI U <|AL 4 U U U <|AY [] (λ u:Value=>.sl 25 u) [25] (λ _=>[]) (Fg:=λ u=>[(0,kn u 7 (Eng.sub x.flat (i+1) (i+1+(at' x.flat i).many)) BP)]) U U call207 U U (λ w M l hF=>uA v x.flat i l (hF.get (k:=0) U) hb V P (by rw[A];omega) (by rw[A];omega)) λ v25 _=>AI U <|AL 5 U U U <|AY [] (λ _:Unit=>.tu [CU (IK (at' x.flat i).n (Eng.sub x.flat (i+1) (i+1+(at' x.flat i).many))).1,.v (.bool (IK (at' x.flat i).n (Eng.sub x.flat (i+1) (i+1+(at' x.flat i).many))).2)]) [] (λ _=>[]) (Fg:=λ _=>[]) U U call206 U U (λ w M l hF=>iB (at' x.flat i).n v25 (Eng.sub x.flat (i+1) (i+1+(at' x.flat i).many)) l hg (hF.get (k:=25) U) (by rw[b];omega) (by rw[b];exact E) (by rw[C];exact D.1)) λ _ _=>AI U <|AL 10 U U U <|AI U <|BV U U U <|A1 U (λ e=>A2 S U U U λ w M' q=>⟨(),M',by rw[R (by simpa using e)];rfl,trivial,q.le,q.C8 [] U,A3⟩) (λ e=>AR (i+1,u.ps++us) U U ⟨j,F (by simpa using e),K⟩ Ag)
 ·have hun:us=[]:=by
   cases us with
   |nil=>rfl
   |cons u us=>obtain⟨P,_⟩:=H.step;omega
  subst hun
  exact A2 S U U U λ w M' q=>⟨(),M',by rw[J];rfl,trivial,q.le,q.C8 [] U,A3⟩
end Go.Proofs.YtnoegalemkbbbaaGreatDoor
