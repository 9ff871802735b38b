/- Lemmas for the card. -/
import Derived.Test.YtnoegalemkbbbaaGreatDoorKs19
set_option linter.unusedVariables false
set_option linter.unusedSimpArgs false
set_option maxRecDepth 100000
set_option maxRecDepth 100000
namespace Go.Eng
open Go.RowKit
section pv
variable {P:Program} {C:World->Prop} {L:Env} {W:Bool} {d:Option Tmp} {ty:TypeId} {ps:String} {af:Array Edge} {gd:Option (Nat×Bool)}
theorem PV.min2 {ts:Array TypeId}{x y:Operand}{k k':IntKind}{a b:Int}(hx:AA L W x (.int k a))(h:AA L W y (.int k' b)):PV P C L W ⟨d,.call ⟨.builtin .min,#[x,y],ts⟩,ty,ps,af,gd⟩ (.int k (if b<a then b else a)):=by
 intro ac N hs e w _
 have:=run_min_int2 (P:=P) (w:=w) ts ty k k' a b
 simp only[execOp,resolve,invoke,builtin,List.map_toArray,List.map_cons,List.map_nil,hx ac N hs e,h ac N hs e,Sem.run_bind,Sem.run_pure,Result.andThen_ok,this]
end pv
def QQ(n:Nd)(p:Int):Int:=if len n.s-1-(p-n.e)<0\/len n.s<=len n.s-1-(p-n.e)then 0 else A4 n.s (len n.s-1-(p-n.e))-48
def NF(a b:Nd)(sd:Int):Nat->Int->Int
 |0,_=>0
 |f+1,p=>if QQ a p<QQ b p then-sd else if QQ b p<QQ a p then sd else NF a b sd f (p-1)
def L3(a:Nd):Int:=if a.neg=true then-1 else 1
def JU(a b:Nd):Int:=if len b.s+b.e>len a.s+a.e then len b.s+b.e else len a.s+a.e
def NG(a b:Nd):Int:=if b.e<a.e then b.e else a.e
def NH(a b:Nd):Int:=if a.neg≠b.neg then L3 a else NF a b (L3 a) (JU a b-NG a b+1).toNat (JU a b)
theorem uC(a b:Nd)(x y:A0)(e:Int): ∀(f:Nat) (p:Int),NF { a with name:=x} { b with name:=y} e f p=NF a b e f p
 |0,_=>rfl
 |f+1,p=>by rw[NF,NF,uC a b x y e f];rfl
theorem uD(a b:Nd)(x y:A0):NH { a with name:=x} { b with name:=y}=NH a b:=by
 unfold NH;rw[uC];rfl
def T1(less same:Bool):Int:=if same=true then 0 else if less=true then-1 else 1
def NI(a b:Nd):Int:=if a.kind≠b.kind then T1 (decide (a.kind<b.kind)) false else if a.kind=3 then NH a b else if a.kind=4 then T1 (Op.bytesLess a.s b.s) (a.s==b.s)else 0
def VS(a:Tm)(x:Nd):Bool:=IP a.n (NI x a.c)
def OV(c:Nd):Bool:=decide (c.kind<5)&&(decide (c.name=[])&&decide (c.many=0)&&G3 c)
def T2(mask:Int)(l:List Tm)(x:Nd):Bool:=OV x&&IM mask x.kind.toNat&&l.all λ a=>VS a x
structure L4 (a:Nd):Prop where
 b:QJ a
 f:a.kind=3->GX a.s
theorem At2{x:Nd}(h:G3 x=true):0<=x.kind/\x.kind<=6:=by
 unfold G3 at h
 repeat' split at h
 all_goals first|omega|(cases h)
end Go.Eng
namespace Go.Proofs.YtnoegalemkbbbaaGreatDoor
open Go.Proofs.Tryz
open Go.Eng
theorem uE(n:Nd)(p:Int)(w:World)(j:IQ n)(k:GX n.s)(hp: -4194304<=p/\p<=4194304):Calls prog 162 [ES n,i64 p].toArray w λ e w'=>e= .returned (i64 (QQ n p))/\Ext w w':=by
 have l:=A8 n.s
 obtain⟨q,y,z⟩:=j
 refine AH AF func162 U ntmps162 [] [] [D1 n,I p] U (BE w) A3 (λ B h=>BM 2 U U U λ C=>?_) U
 refine A1 U (λ h1=>?_) (λ h1=>?_)<;>simp only[zb]at h1
 ·exact A2 h U U U λ w M b=>⟨by unfold QQ;rw[if_pos Aa];rfl,b.st.low⟩
 have A:=k.at (i:=len n.s-1-(p-n.e)) Aa Aa
 exact A2 h U U U λ w M b=>⟨by unfold QQ;rw[if_neg Aa];rfl,b.st.low⟩
theorem uF(a b:Nd)(w:World)(P:IQ a)(Q:IQ b)(n:GX a.s)(y:GX b.s):
    Calls prog 128 [ES a,ES b].toArray w λ e w'=>e= .returned (i64 (NH a b))/\Ext w w':=by
 have R:=A8 a.s
 have S:=A8 b.s
 obtain⟨z,A,C⟩:=P
 obtain⟨D,F,G⟩:=Q
 refine AH AF func128 U ntmps128 [] [] [D1 a,D1 b] U (BE w) A3 (λ B j=>BM 2 U U U λ k=>BM 3 U U U λ l=>CQ 0 (λ s=>s=⟨[],[(2,EK k a),(3,EK l b)],[Z 2 (.bx 2 k 0),Z 3 (.bx 3 l 0),Z 4 (I 0),Z 5 (I (L3 a))]⟩) U U (λ h1=>?_) (λ h1=>?_) ?_) U
 ·exact AT _ U U (by unfold L3;rw[if_pos h1])
 ·exact AT _ U U (by unfold L3;rw[if_neg (by rw[h1];decide)])
 rintro _ rfl
 have T:L3 a=1\/L3 a= -1:=by unfold L3;split<;>simp
 refine A1 U (λ h1=>?_) (λ h1=>?_)
 ·exact A2 j U U U λ w M h=>⟨by unfold NH;rw[if_pos (by simpa using h1)];rfl,h.st.low⟩
 have H: ¬(a.neg≠b.neg):=by simpa using h1
 have V: -1048576<=JU a b/\JU a b<=2097152:=by unfold JU;split<;>omega
 have W: -1048576<=NG a b/\NG a b<=1048576/\NG a b<=JU a b:=by unfold NG JU;split<;>split<;>omega
 have J:NH a b=NF a b (L3 a) (JU a b-NG a b+1).toNat (JU a b):=by unfold NH;rw[if_neg H]
 refine AR (I (JU a b)) U U (λ w M h=>PV.max2 (A7 (v:=I (len a.s+a.e)) (E:=[]) U) (A7 (v:=I (len b.s+b.e)) (E:=[]) U)) <|B7 (σ:=Nat×Int) (λ(f,p)=>⟨[],[(2,EK k a),(3,EK l b)],[Z 2 (.bx 2 k 0),Z 3 (.bx 3 l 0),Z 4 (I 0),Z 5 (I (L3 a)),Z 7 (I p)]⟩) (λ(f,p)=>(f:Int)=p-NG a b+1/\p<=JU a b/\NH a b=NF a b (L3 a) f p) (λ(f,p)=>f) ((JU a b-NG a b+1).toNat,JU a b) U U ⟨Aa,Aa,J⟩ ?_
 rintro⟨f,p⟩ ⟨hf,X,i⟩
 refine AR (I (NG a b)) U U (λ w M h=>PV.min2 (A7 (v:=I a.e) (E:=[]) U) (A7 (v:=I b.e) (E:=[]) U)) ?_
 refine A1 U (λ O=>?_) (λ O=>?_)<;>simp only[zb]at O
 ·obtain⟨f,rfl⟩: ∃q,f=q+1:=⟨f-1,Aa⟩
  refine FX U BK Ac <|H4 U call162 U U (λ _ w M h=>uE a p w ⟨z,A,C⟩ n Aa) U <|H4 U call162 U U (λ _ w M h=>uE b p w ⟨D,F,G⟩ y Aa) U <|FY U ?_
  rw[NF]at i
  refine A1 U (λ K=>?_) (λ K=>?_)<;>simp only[zb]at K
  ·exact A2 j U U U λ w M h=>⟨by rw[i,if_pos K];rfl,h.st.low⟩
  refine A1 U (λ L=>?_) (λ L=>?_)<;>simp only[zb]at L
  ·exact A2 j U U U λ w M h=>⟨by rw[i,if_neg Aa,if_pos L];rfl,h.st.low⟩
  exact AX (f,p-1) U U ⟨Aa,Aa,by rw[i,if_neg Aa,if_neg Aa]⟩ (by show f<f+1;omega)
 ·have N:f=0:=by omega
  subst N
  exact A2 j U U U λ w M h=>⟨by rw[i];rfl,h.st.low⟩
theorem uG(x y:Bool)(w:World):Calls prog 127 [.bool x,.bool y].toArray w λ e w'=>e= .returned (i64 (T1 x y))/\Ext w w':=by
 refine AH AF func127 U ntmps127 [] [] [.v (.bool x),.v (.bool y)] U (BE w) A3 (λ B h=>A1 U (λ h1=>?_) (λ h1=>?_)) U
 ·exact A2 h U U U λ w M b=>⟨by unfold T1;rw[if_pos h1];rfl,b.st.low⟩
 refine A1 U (λ i=>?_) (λ i=>?_)
 ·exact A2 h U U U λ w M b=>⟨by unfold T1;rw[if_neg (by rw[h1];decide),if_pos i];rfl,b.st.low⟩
 exact A2 h U U U λ w M b=>⟨by unfold T1;rw[if_neg (by rw[h1];decide),if_neg (by rw[i];decide)];rfl,b.st.low⟩
theorem uH(a b:Nd)(v u:Value)(w:World)(M:Mem)(D:Sat w M)(E:(kn v 6 [a] Nd.cells).ok M)(hu:(kn u 6 [b] Nd.cells).ok M)(q:L4 a)(y:L4 b)(L:a.kind<5):
    Calls prog 71 [v,u].toArray w λ e w'=>e= .returned (i64 (NI a b))/\Ext w w':=by
 refine AH (Hr:=[]) AF func71 U ntmps71 [(0,kn v 6 [a] Nd.cells),(1,kn u 6 [b] Nd.cells)] [] [.sl 0 v,.sl 1 u] U (Aj D) (AD E (AD hu A3)) (λ B l=>?_) U
 have F:len [a]=1:=rfl
 have G:len [b]=1:=rfl
 have j:at' [a] 0=a:=rfl
 have z:at' [b] 0=b:=rfl
 refine FX U BK Ac <|FY U ?_
 refine A1 U (λ h1=>?_) (λ h1=>?_)<;>simp only[zb]at h1<;>rw[j,z]at h1
 ·exact AJ U call127 U U (λ _ w M i=>uG (decide (a.kind<b.kind)) false w) U <|A2 l U U U λ w M i=>⟨by unfold NI;rw[if_pos h1];rfl,i.st.low⟩
 have H:a.kind=b.kind:=by omega
 refine A1 U (λ k=>?_) (λ k=>?_)<;>simp only[zb]at k<;>rw[j]at k
 ·refine D7 [6,7,8,9] 5 (λ _ _ _ _ _ h=>h) U BK Ac <|FZ 6 7 U U U ?_ ?_
  ·exact B9 7 U zeroValue46 U λ J=>AE U <|AK 7 U U U <|B9 8 U zeroValue46 U λ K=>AE U <|AK 8 U U U <|AE U <|AK 9 U U U <|AE U <|BL U U U <|AJ U call128 U U (λ _ w M i=>uF { a with name:=[]} { b with name:=[]} w q.b y.b (q.f k) (y.f Aa)) U <|A2 l U U U λ w M i=>⟨by unfold NI;rw[if_neg Aa,if_pos k,<-uD a b [] []];rfl,i.st.low⟩
  ·exact B9 8 U zeroValue46 U λ K=>AE U <|AK 6 U U U <|B9 7 U zeroValue46 U λ J=>AE U <|AK 8 U U U <|AE U <|AK 9 U U U <|AE U <|BL U U U <|AJ U call128 U U (λ _ w M i=>uF { a with name:=[]} { b with name:=[]} w q.b y.b (q.f k) (y.f Aa)) U <|A2 l U U U λ w M i=>⟨by unfold NI;rw[if_neg Aa,if_pos k,<-uD a b [] []];rfl,i.st.low⟩
 refine A1 U (λ n=>?_) (λ n=>?_)<;>simp only[zb]at n<;>rw[j]at n
 ·exact FX U BK Ac <|H4 U call127 U U (λ _ w M i=>uG (Op.bytesLess a.s b.s) (a.s==b.s) w) U <|FY U <|A2 l U U U λ w M i=>⟨by unfold NI;rw[if_neg Aa,if_neg k,if_pos n];rfl,i.st.low⟩
 refine A1 U (λ A=>?_) (λ A=>?_)<;>simp only[zb]at A<;>rw[j]at A
 ·omega
 refine A1 U (λ C=>?_) (λ C=>?_)<;>simp only[zb]at C<;>rw[j]at C
 ·omega
 exact A2 l U U U λ w M i=>⟨by unfold NI;rw[if_neg Aa,if_neg k,if_neg n];rfl,i.st.low⟩
theorem uI(n x:Int)(w:World):Calls prog 70 [i64 n,i64 x].toArray w λ e w'=>e= .returned (.bool (IP n x))/\Ext w w':=by
 refine AH AF func70 U ntmps70 [] [] [I n,I x] U (BE w) A3 (λ B i=>?_) U
 refine A1 U (λ h1=>?_) (λ h1=>?_)<;>simp only[zb]at h1
 ·exact A2 i U U U λ w M b=>⟨by unfold IP;rw[if_pos h1];rfl,b.st.low⟩
 refine A1 U (λ h=>?_) (λ h=>?_)<;>simp only[zb]at h
 ·exact A2 i U U U λ w M b=>⟨by unfold IP;rw[if_neg h1,if_pos h];rw[<-rP];rfl,b.st.low⟩
 refine A1 U (λ j=>?_) (λ j=>?_)<;>simp only[zb]at j
 ·exact A2 i U U U λ w M b=>⟨by unfold IP;rw[if_neg h1,if_neg h,if_pos j];rfl,b.st.low⟩
 refine A1 U (λ k=>?_) (λ k=>?_)<;>simp only[zb]at k
 ·exact A2 i U U U λ w M b=>⟨by unfold IP;rw[if_neg h1,if_neg h,if_neg j,if_pos k];rfl,b.st.low⟩
 refine A1 U (λ l=>?_) (λ l=>?_)<;>simp only[zb]at l
 ·exact A2 i U U U λ w M b=>⟨by unfold IP;rw[if_neg h1,if_neg h,if_neg j,if_neg k,if_pos l];rfl,b.st.low⟩
 exact A2 i U U U λ w M b=>⟨by unfold IP;rw[if_neg h1,if_neg h,if_neg j,if_neg k,if_neg l];rfl,b.st.low⟩
theorem At3(a:Tm)(x:Nd)(w:World)(M:Mem)(s:Sat w M)(j:L4 a.c)(hx:L4 x)(l:x.kind<5):
   Calls prog 101 [QF a,ES x].toArray w λ e w'=>e= .returned (.bool (VS a x))/\Ext w w':=by
 refine AH (Hr:=[]) AF func101 U ntmps101 [] [] [fW a,D1 x] U (Aj s) A3 (λ B q=>BM 2 U U U λ y=>BM 3 U U U λ z=>D7 [3,6,7,8,9] 6 (λ _ _ _ _ _ h=>h) U BK Ac <|FZ 3 6 U U U ?_ ?_) U
 ·exact BH 8 [x] Nd.cells 6 46 Nd.AS U U Ah U λ i=>AE U <|AK 6 U U U <|BH 11 [a.c] Nd.cells 6 46 Nd.AS U U Ah U λ v11=>AE U <|AK 7 U U U <|AJ U call71 U U (λ _ w M b=>uH x a.c i v11 w M b.st.sat (b.f.get (k:=8) U) (b.f.get (k:=11) U) hx j l) U <|AE U <|AK 8 U U U <|AJ U call70 U U (λ _ w M b=>uI a.n (NI x a.c) w) U <|AE U <|AK 9 U U U <|AE U <|BL U U U <|A2 q U U U λ w M b=>⟨rfl,b.st.low⟩
 ·exact BH 11 [a.c] Nd.cells 6 46 Nd.AS U U Ah U λ v11=>AE U <|AK 3 U U U <|BH 8 [x] Nd.cells 6 46 Nd.AS U U Ah U λ i=>AE U <|AK 7 U U U <|AJ U call71 U U (λ _ w M b=>uH x a.c i v11 w M b.st.sat (b.f.get (k:=8) U) (b.f.get (k:=11) U) hx j l) U <|AE U <|AK 8 U U U <|AJ U call70 U U (λ _ w M b=>uI a.n (NI x a.c) w) U <|AE U <|AK 9 U U U <|AE U <|BL U U U <|A2 q U U U λ w M b=>⟨rfl,b.st.low⟩
theorem At4(mask:Int)(v:Value)(l:List Tm)(x:Nd)(w:World)(M:Mem)(H:Sat w M)(hl:(kn v 7 l C2).ok M)(L:len l<=1099511627776)(J: ∀a∈l,L4 a.c)(hx:L4 x)(hm:0<=mask/\mask<=31):
    Calls prog 42 [i64 mask,v,ES x].toArray w λ e w'=>e= .returned (.bool (T2 mask l x))/\Ext w w':=by
 have K:=A8 l
 refine AH (Hr:=[]) AF func42 U ntmps42 [(1,kn v 7 l C2)] [] [I mask,.sl 1 v,D1 x] U (Aj H) (AD hl A3) (λ B C=>BM 5 U U U λ b=>AJ U call99 U U (λ _ w M j=>rK x w M j.st.sat hx.b.1) U <|GB (.v (.bool false)) U U (λ D=>?_) (λ D=>?_)) U
 ·have n:OV x=true:=by unfold OV;simpa using D
  have G:x.kind<5/\(G3 x=true):=by unfold OV at n;simp only[Bool.and_eq_true,decide_eq_true_eq]at n;exact⟨n.1,n.2.2⟩
  have N:=At2 G.2
  have E:x.kind=((x.kind.toNat:Nat):Int):=by omega
  have A:T2 mask l x=(IM mask x.kind.toNat&&l.all λ a=>VS a x):=by unfold T2;rw[n,Bool.true_and]
  refine AJ U call100 U U (hE2:=N5 D (by simp)) (λ _ w M j=>by show Calls prog 100 [i64 mask,i64 x.kind].toArray w _;rw[E];exact Ag6 mask x.kind.toNat w hm.1 Aa Aa) U <|A1 U (λ h=>?_) (λ h=>?_)
  ·have F:IM mask x.kind.toNat=false:=by
    cases hq:IM mask x.kind.toNat with
    |false=>rfl
    |true=>unfold OV at n;rw[hq,n]at h;simp at h
   exact A2 C U U U λ w M j=>⟨by rw[A,F];rfl,j.st.low⟩
  have F:IM mask x.kind.toNat=true:=by
   cases hq:IM mask x.kind.toNat with
   |true=>rfl
   |false=>rw[hq]at h;simp at h
  refine B7 (σ:=Int) (λ k=>⟨[(1,kn v 7 l C2)],[(5,EK b x)],[Z 1 (.sl 1 v),Z 5 (.bx 5 b 0),Z 7 (I k)]⟩) (λ k=>0<=k/\k<=len l/\ ∀a∈Eng.sub l 0 k,VS a x=true) (λ k=>(len l-k).toNat) 0 rfl rfl ⟨Aa,Aa,λ x hx=>by cases hx⟩ ?_
  intro k ⟨h0,h1,s⟩
  refine A1 U (λ y=>?_) (λ y=>?_)<;>simp only[zb]at y
  ·refine FX U BK Ac <|H4 U call101 U U (λ _ w M j=>At3 (at' l k) x w M j.st.sat (J _ (at_mem h0 y)) hx G.1) U <|FY U <|A1 U (λ z=>?_) (λ z=>?_)
   ·refine A2 C U U U λ w M j=>⟨?_,j.st.low⟩
    have e:(l.all λ a=>VS a x)=false:=by
     rw[<-Bool.not_eq_true,List.all_eq_true]
     intro q
     have:=q _ (at_mem h0 y)
     rw[this]at z;cases z
    rw[A,e,Bool.and_false];rfl
   ·exact AX (k+1) U U ⟨Aa,Aa,λ a i=>by
     rw[G0 h0 y]at i
     rcases List.mem_append.1 i with i|i
     ·exact s a i
     ·rw[List.mem_singleton.1 i];simpa using z⟩ Ag
  ·rw[GD Aa]at s
   exact A2 C U U U λ w M j=>⟨by rw[A,F,List.all_eq_true.2 s];rfl,j.st.low⟩
 ·have n:OV x=false:=by unfold OV;simpa using D
  refine A1 U (λ h=>?_) (λ h=>?_)
  ·exact A2 C U U U λ w M j=>⟨by unfold T2;rw[n];rfl,j.st.low⟩
  ·exfalso
   unfold OV at n
   rw[n]at h;simp at h
end Go.Proofs.YtnoegalemkbbbaaGreatDoor
namespace Go.Eng
open Go.RowKit
section
variable {c:Cx} {B:Exit->Act->World->Prop} {k k':List Fr} {m:Md} {s s':XS} {O:Prop} {E:List Ck} {all:Array Oper} {rest:List Oper} {d:Nat} {ty:TypeId} {ps:String} {af:Array Edge}
theorem uJ(kk:Nat){t u e:TypeId}{x:Operand}{a:A0}{E1:List Ck}(h:run c.T c.N k m s=⟨k',.ops all (⟨some d,.convert t u x,ty,ps,af,none⟩::rest),s',O,E⟩)(hx:BB s'.L .t x=some (.v (str a),E1))
  (j:c.P.underlying t=some .string) (hu:c.P.underlying u=some (.slice e)) (he:c.P.underlying e=some (.int .u8))
  (l: ∀b cap sp,XG c B k' (.ops all rest) ⟨s'.F,(kk,.ho (.raw b (FO e (ints a) sp)))::s'.H,(d,.t,.v (.slice (some ⟨b,0,none⟩) a.length cap))::s'.L⟩) (hE:A9 E:=by exact Ad) (hO:O:=by exact Af) (hE1:A9 E1:=by exact Ad) (hd:Nat.blt d c.N=true:=by exact rfl):XG c B k m s:=
 DC h (hE:=hE) (hO:=hO) λ w M i=>RL.cY i.st (A7 hx (hE:=hE1)) j hu he hd λ b cap sp w' hS=>DD (l b cap sp) ⟨hS,i.f,i.le⟩ U
theorem ZG(kk j:Nat){t e:TypeId}{x y:Operand}{b:Nat}{u:Int}{l:List Int}{sp:List Value}{E1 E2:List Ck}(h:run c.T c.N k m s=⟨k',.ops all (⟨none,.store t x y,ty,ps,af,none⟩::rest),s',O,E⟩)
  (hx:BB s'.L .t x=some (.v (.pointer (some ⟨b,j,none⟩)),E1)) (z:BB s'.L .t y=some (.v (.int .u8 u),E2)) (A:CY s'.H kk=some (.ho (.raw b (FO e l sp)))) (C: ∀w,(sizeOf t).run c.P w= .ok 1 w) (D:j<l.length)
  (G:XG c B k' (.ops all rest) ⟨s'.F,C8 s'.H kk (.ho (.raw b (FO e (l.set j u) sp))),s'.L⟩) (hE:A9 E:=by exact Ad) (hO:O:=by exact Af) (hE1:A9 (E1++E2):=by exact Ad):XG c B k m s:=by
 refine DC h (hE:=hE) (hO:=hO) λ w M n=>?_
 obtain⟨q,J,i⟩:=DK (Hr:=c.Hr) A
 exact RL.AE8 n.st J (A7 hx (hE:=hE1.app.1)) (A7 z (hE:=hE1.app.2)) C D (Hs':=HD (C8 s'.H kk (.ho (.raw b (FO e (l.set j u) sp))))++c.Hr) (i (.ho (.raw b (FO e (l.set j u) sp)))).symm λ w' hS=>DD G ⟨hS,n.f,n.le⟩ U
theorem ZH(kk j:Nat){t e:TypeId}{x:Operand}{b:Nat}{l:List Int}{sp:List Value}{E1:List Ck}(h:run c.T c.N k m s=⟨k',.ops all (⟨some d,.load t x,ty,ps,af,none⟩::rest),s',O,E⟩)
  (hx:BB s'.L .t x=some (.v (.pointer (some ⟨b,j,none⟩)),E1)) (i:CY s'.H kk=some (.ho (.raw b (FO e l sp)))) (n: ∀w,(isAgg t).run c.P w= .ok false w) (y:j<l.length)
  (z:XG c B k' (.ops all rest) ⟨s'.F,s'.H,(d,.t,.v (.int .u8 (at' l (j:Int))))::s'.L⟩) (hE:A9 E:=by exact Ad) (hO:O:=by exact Af) (hE1:A9 E1:=by exact Ad) (hd:Nat.blt d c.N=true:=by exact rfl):XG c B k m s:=by
 refine AR (.v (.int .u8 (at' l (j:Int)))) h (hE:=hE) (hO:=hO) (W:=.t) (by rw[hd];rfl) (λ w M A=>?_) z
 obtain⟨q,C,_⟩:=DK (Hr:=c.Hr) i
 exact PV.AE6 A.st GZ C (A7 hx (hE:=hE1)) n λ _=>y
theorem uK(kk:Nat){t u e i:TypeId}{x:Operand}{b n cap:Nat}{l:List Int}{sp:List Value}{E1:List Ck}(h:run c.T c.N k m s=⟨k',.ops all (⟨some d,.convert t u x,ty,ps,af,none⟩::rest),s',O,E⟩)
  (hx:BB s'.L .t x=some (.v (.slice (some ⟨b,0,none⟩) n cap),E1)) (j:CY s'.H kk=some (.ho (.raw b (FO e l sp)))) (hl:n=l.length) (y:c.P.underlying t=some (.slice i)) (he:c.P.underlying i=some (.int .u8)) (hu:c.P.underlying u=some .string)
  (z:XG c B k' (.ops all rest) ⟨s'.F,s'.H,(d,.t,.v (str (toStr l)))::s'.L⟩) (hE:A9 E:=by exact Ad) (hO:O:=by exact Af) (hE1:A9 E1:=by exact Ad) (hd:Nat.blt d c.N=true:=by exact rfl):XG c B k m s:=by
 refine AR (.v (str (toStr l))) h (hE:=hE) (hO:=hO) (W:=.t) (by rw[hd];rfl) (λ w M A=>?_) z
 obtain⟨q,C,_⟩:=DK (Hr:=c.Hr) j
 exact PV.AE7 A.st GZ C (A7 hx (hE:=hE1)) hl y he hu
end
def OW:Nat->List Int->Int->List Int
 |0,l,_=>l
 |f+1,l,i=>if at' l i=57 then OW f (l.set i.toNat 48) (i-1)else l.set i.toNat (at' l i+1)
def OX:Nat->List Int->Int->List Int
 |0,l,_=>l
 |f+1,l,i=>if at' l i=48 then OX f (l.set i.toNat 57) (i-1)else l.set i.toNat (at' l i-1)
def OY(s:A0):A0:=toStr (OW (s.length+1) (ints (48::s)) (len s))
def OZ(s:A0):A0:=toStr (OX s.length (ints s) (len s-1))
theorem uL{s:A0}(h:GX s){x:Int}(hx:x∈ints s):48<=x/\x<=57:=by
 unfold ints at hx
 obtain⟨y,b,rfl⟩:=List.mem_map.1 hx
 have:=h y b;omega
theorem ZI{l:List Int}{i j:Int}{u:Int}(hi:0<=i/\i<len l)(b:0<=j):at' (l.set i.toNat u) j=if i=j then u else at' l j:=by
 unfold at'
 rw[List.getD_eq_getElem?_getD,List.getD_eq_getElem?_getD,List.getElem?_set]
 by_cases h:i=j
 ·subst h
  rw[if_pos U,if_pos U,if_pos (by unfold len at hi;omega)];rfl
 ·rw[if_neg Aa,if_neg h]
end Go.Eng
namespace Go.Proofs.YtnoegalemkbbbaaGreatDoor
open Go.Proofs.Tryz
open Go.Eng
theorem At5(n:Nd)(x:Int)(w:World)(y:len n.s<=1048576)(he: -1048576<=n.e/\n.e<=1048576)(hx: -1048576<=x/\x<=n.e):Calls prog 183 [ES n,i64 x].toArray w λ e w'=>e= .returned (str (n.s++BC (n.e-x)))/\Ext w w':=by
 have k:=A8 n.s
 refine AH AF func183 U ntmps183 [] [] [D1 n,I x] U (BE w) A3 (λ B l=>BM 2 U U U λ h=>B7 (σ:=Int) (λ i=>⟨[],[(2,EK h n)],[Z 2 (.bx 2 h 0),Z 5 (.v (str (n.s++BC (i-x)))),Z 6 (I i)]⟩) (λ i=>x<=i/\i<=n.e) (λ i=>(n.e-i).toNat) x U (by rw[Int.sub_self,X4 (Int.le_refl _),List.append_nil];rfl) ⟨Aa,hx.2⟩ ?_) U
 rintro i ⟨h0,h1⟩
 have z:=NX (i-x) Aa
 refine A1 U (λ j=>?_) (λ j=>?_)<;>simp only[zb]at j
 ·have b:n.s++BC (i-x)++[48]=n.s++BC (i+1-x):=by
   unfold BC
   rw[show(i+1-x).toNat=(i-x).toNat+1 by omega,List.replicate_succ',List.append_assoc]
  exact AX (i+1) U (hO:=by simp only[AO,AL,len_nil];and_intros<;>first|omega|trivial) (by rw[<-b];rfl) ⟨Aa,Aa⟩ Ag
 ·have e:i=n.e:=by omega
  subst e
  exact A2 l U U U λ w M q=>⟨rfl,q.st.low⟩
theorem At6(s:A0)(w:World)(W:GX s)(K:len s<=4194304):Calls prog 184 [str s].toArray w λ e w'=>e= .returned (str (OY s))/\Ext w w':=by
 have X:=A8 s
 have hls:len s=(s.length:Int):=rfl
 obtain⟨h,k⟩: ∃h,h=ints (48::s):=⟨_,rfl⟩
 have C:h.length=s.length+1:=by rw[k];unfold ints;simp
 have hln:len h=(h.length:Int):=rfl
 have L:GX (48::s):=λ b K=>by
   rcases List.mem_cons.1 K with rfl|K
   ·decide
   ·exact W b K
 have N: ∀j,0<=j->j<len h->48<=at' h j/\at' h j<=57:=λ j h0 h1=>uL L (by rw[<-k];exact QU h0 h1)
 have hex: ∃j,0<=j/\j<len h/\at' h j≠57:=⟨0,Aa,Aa,by rw[k];show((48:UInt8).toNat:Int)≠57;decide⟩
 have D:OY s=toStr (OW h.length h (len h-1)):=by unfold OY;rw[k];rw[<-k,C,show len h-1=len s by omega]
 obtain⟨R,V⟩: ∃R,R=OW h.length h (len h-1):=⟨_,rfl⟩
 rw[<-V]at D
 obtain⟨j0,O,hj1,P⟩:=hex
 refine AH AF func184 U ntmps184 [] [] [.v (str s)] U (BE w) A3 (λ B hB=>uJ 3 (a:=48::s) U (hO:=by simp only[AL,len_nil];and_intros<;>first|omega|trivial) U underlying9 underlying216 underlying5 λ b cap sp=>?_) U
 rw[<-k,show(48::s).length=h.length by simp[C]]
 refine AR (I (h.length:Nat)) U U (λ w M A=>PV.cZ (A7 (v:=.v (.slice (some ⟨b,0,none⟩) h.length cap)) (E:=[]) U) underlying216) <|B7 (σ:=Nat×List Int×Int) (λ(f,l,i)=>⟨[],[(3,.ho (.raw b (FO 5 l sp)))],[Z 3 (.v (.slice (some ⟨b,0,none⟩) h.length cap)),Z 4 (I i)]⟩) (λ(f,l,i)=>0<=i/\i<len h/\l.length=h.length/\(∀j,0<=j->j<len h->48<=at' l j/\at' l j<=57)/\(∃j,0<=j/\j<=i/\at' l j≠57)/\OW f l i=R/\i+1<=f) (λ(f,l,i)=>f) (h.length,h,(h.length:Int)-1) U U ⟨Aa,Aa,rfl,N,⟨j0,O,Aa,P⟩,V.symm,Aa⟩ ?_
 rintro⟨f,l,i⟩ ⟨n,Q,hl,F,⟨j,G,hjb,H⟩,hg,hfu⟩
 have hit:((i.toNat:Nat):Int)=i:=by omega
 have z:i.toNat<l.length:=by omega
 have hbi:=F i n Q
 obtain⟨f,rfl⟩: ∃q,f=q+1:=⟨f-1,Aa⟩
 refine AR (.v (.pointer (some ⟨b,i.toNat,none⟩))) U U (λ w M A=>PV.O3 (A7 (v:=.v (.slice (some ⟨b,0,none⟩) h.length cap)) (E:=[]) U) (A7 (v:=I i) (E:=[]) U) underlying216 sizeOf5 λ _=>⟨n,Aa⟩) <|ZH 3 i.toNat U U U isAgg5 z ?_
 rw[hit]
 rw[OW]at hg
 refine A1 U (λ y=>?_) (λ y=>?_)<;>simp only[zb]at y
 ·rw[if_pos y]at hg
  have S:i≠j:=λ e=>by subst e;exact H y
  refine AR (.v (.pointer (some ⟨b,i.toNat,none⟩))) U U (λ w M A=>PV.O3 (A7 (v:=.v (.slice (some ⟨b,0,none⟩) h.length cap)) (E:=[]) U) (A7 (v:=I i) (E:=[]) U) underlying216 sizeOf5 λ _=>⟨n,Aa⟩) <|ZG 3 i.toNat (u:=48) U U U U sizeOf5 z <|AX (f,l.set i.toNat 48,i-1) U U ⟨Aa,Aa,by rw[List.length_set];exact hl,λ q J T=>?_,⟨j,G,Aa,?_⟩,hg,Aa⟩ (by show f<f+1;omega)
  ·rw[ZI ⟨n,by unfold len at*;omega⟩ J]
   split
   ·omega
   ·exact F q J T
  ·rw[ZI ⟨n,by unfold len at*;omega⟩ G,if_neg S];exact H
 ·rw[if_neg y]at hg
  refine AR (.v (.pointer (some ⟨b,i.toNat,none⟩))) U U (λ w M A=>PV.O3 (A7 (v:=.v (.slice (some ⟨b,0,none⟩) h.length cap)) (E:=[]) U) (A7 (v:=I i) (E:=[]) U) underlying216 sizeOf5 λ _=>⟨n,Aa⟩) <|ZH 3 i.toNat U U U isAgg5 z ?_
  rw[hit]
  exact AR (.v (.pointer (some ⟨b,i.toNat,none⟩))) U U (λ w M A=>PV.O3 (A7 (v:=.v (.slice (some ⟨b,0,none⟩) h.length cap)) (E:=[]) U) (A7 (v:=I i) (E:=[]) U) underlying216 sizeOf5 λ _=>⟨n,Aa⟩) <|ZG 3 i.toNat (u:=at' l i+1) U U U U sizeOf5 z <|uK 3 U U U (by rw[List.length_set];exact hl.symm) underlying216 underlying5 underlying9 <|A2 hB U U U λ w M A=>⟨by rw[D,<-hg];rfl,A.st.low⟩
theorem At7(s:A0)(w:World)(W:GX s)(T:len s<=4194304)(hx: ∃b∈s,b.toNat≠48):Calls prog 185 [str s].toArray w λ e w'=>e= .returned (str (OZ s))/\Ext w w':=by
 have X:=A8 s
 have hls:len s=(s.length:Int):=rfl
 obtain⟨h,k⟩: ∃h,h=ints (s):=⟨_,rfl⟩
 have C:h.length=s.length:=by rw[k];unfold ints;simp
 have hln:len h=(h.length:Int):=rfl
 have K:GX (s):=W
 have L: ∀j,0<=j->j<len h->48<=at' h j/\at' h j<=57:=λ j h0 h1=>uL K (by rw[<-k];exact QU h0 h1)
 have hex: ∃j,0<=j/\j<len h/\at' h j≠48:=by
  obtain⟨b,T,hb2⟩:=hx
  obtain⟨j,hj,e⟩:=List.getElem_of_mem T
  refine⟨j,Aa,Aa,?_⟩
  rw[k,ints_at Aa Aa]
  unfold A4
  rw[Int.toNat_natCast,List.getD_eq_getElem?_getD,List.getElem?_eq_getElem hj,e]
  show(b.toNat:Int)≠48
  omega
 have D:OZ s=toStr (OX h.length h (len h-1)):=by unfold OZ;rw[k];rw[<-k,C,show len h-1=len s-1 by omega]
 obtain⟨R,V⟩: ∃R,R=OX h.length h (len h-1):=⟨_,rfl⟩
 rw[<-V]at D
 obtain⟨j0,N,hj1,O⟩:=hex
 refine AH AF func185 U ntmps185 [] [] [.v (str s)] U (BE w) A3 (λ B hB=>uJ 3 (a:=s) U U underlying9 underlying216 underlying5 λ b cap sp=>?_) U
 rw[<-k,show(s).length=h.length by simp[C]]
 refine AR (I (h.length:Nat)) U U (λ w M A=>PV.cZ (A7 (v:=.v (.slice (some ⟨b,0,none⟩) h.length cap)) (E:=[]) U) underlying216) <|B7 (σ:=Nat×List Int×Int) (λ(f,l,i)=>⟨[],[(3,.ho (.raw b (FO 5 l sp)))],[Z 3 (.v (.slice (some ⟨b,0,none⟩) h.length cap)),Z 4 (I i)]⟩) (λ(f,l,i)=>0<=i/\i<len h/\l.length=h.length/\(∀j,0<=j->j<len h->48<=at' l j/\at' l j<=57)/\(∃j,0<=j/\j<=i/\at' l j≠48)/\OX f l i=R/\i+1<=f) (λ(f,l,i)=>f) (h.length,h,(h.length:Int)-1) U U ⟨Aa,Aa,rfl,L,⟨j0,N,Aa,O⟩,V.symm,Aa⟩ ?_
 rintro⟨f,l,i⟩ ⟨n,P,hl,F,⟨j,G,hjb,H⟩,hg,hfu⟩
 have hit:((i.toNat:Nat):Int)=i:=by omega
 have z:i.toNat<l.length:=by omega
 have hbi:=F i n P
 obtain⟨f,rfl⟩: ∃q,f=q+1:=⟨f-1,Aa⟩
 refine AR (.v (.pointer (some ⟨b,i.toNat,none⟩))) U U (λ w M A=>PV.O3 (A7 (v:=.v (.slice (some ⟨b,0,none⟩) h.length cap)) (E:=[]) U) (A7 (v:=I i) (E:=[]) U) underlying216 sizeOf5 λ _=>⟨n,Aa⟩) <|ZH 3 i.toNat U U U isAgg5 z ?_
 rw[hit]
 rw[OX]at hg
 refine A1 U (λ y=>?_) (λ y=>?_)<;>simp only[zb]at y
 ·rw[if_pos y]at hg
  have Q:i≠j:=λ e=>by subst e;exact H y
  refine AR (.v (.pointer (some ⟨b,i.toNat,none⟩))) U U (λ w M A=>PV.O3 (A7 (v:=.v (.slice (some ⟨b,0,none⟩) h.length cap)) (E:=[]) U) (A7 (v:=I i) (E:=[]) U) underlying216 sizeOf5 λ _=>⟨n,Aa⟩) <|ZG 3 i.toNat (u:=57) U U U U sizeOf5 z <|AX (f,l.set i.toNat 57,i-1) U U ⟨Aa,Aa,by rw[List.length_set];exact hl,λ q J S=>?_,⟨j,G,Aa,?_⟩,hg,Aa⟩ (by show f<f+1;omega)
  ·rw[ZI ⟨n,by unfold len at*;omega⟩ J]
   split
   ·omega
   ·exact F q J S
  ·rw[ZI ⟨n,by unfold len at*;omega⟩ G,if_neg Q];exact H
 ·rw[if_neg y]at hg
  refine AR (.v (.pointer (some ⟨b,i.toNat,none⟩))) U U (λ w M A=>PV.O3 (A7 (v:=.v (.slice (some ⟨b,0,none⟩) h.length cap)) (E:=[]) U) (A7 (v:=I i) (E:=[]) U) underlying216 sizeOf5 λ _=>⟨n,Aa⟩) <|ZH 3 i.toNat U U U isAgg5 z ?_
  rw[hit]
  exact AR (.v (.pointer (some ⟨b,i.toNat,none⟩))) U U (λ w M A=>PV.O3 (A7 (v:=.v (.slice (some ⟨b,0,none⟩) h.length cap)) (E:=[]) U) (A7 (v:=I i) (E:=[]) U) underlying216 sizeOf5 λ _=>⟨n,Aa⟩) <|ZG 3 i.toNat (u:=at' l i-1) U U U U sizeOf5 z <|uK 3 U U U (by rw[List.length_set];exact hl.symm) underlying216 underlying5 underlying9 <|A2 hB U U U λ w M A=>⟨by rw[D,<-hg];rfl,A.st.low⟩
end Go.Proofs.YtnoegalemkbbbaaGreatDoor
namespace Go.Eng
open Go.RowKit
theorem uM: ∀(f:Nat) (l:List Int) (i:Int),(OW f l i).length=l.length
 |0,_,_=>rfl
 |f+1,l,i=>by
  rw[OW];split
  ·rw[uM f,List.length_set]
  ·rw[List.length_set]
theorem uN: ∀(f:Nat) (l:List Int) (i:Int),(OX f l i).length=l.length
 |0,_,_=>rfl
 |f+1,l,i=>by
  rw[OX];split
  ·rw[uN f,List.length_set]
  ·rw[List.length_set]
theorem At8(s:A0):len (OY s)=len s+1:=by
 unfold OY toStr len;rw[List.length_map,uM];unfold ints;simp
theorem At9(s:A0):len (OZ s)=len s:=by
 unfold OZ toStr len;rw[List.length_map,uN];unfold ints;simp
theorem Au0{s:A0}(hs:s≠[])(h:Lib.trimB s 48=s)(k:Int): ∃b∈s++BC k,b.toNat≠48:=by
 refine Decidable.byContradiction λ l=>?_
 have j:=s8 hs h k
 have:BG (s++BC k)=[]:=by
  unfold BG Lib.trimRightS
  rw[gB λ x hx=>?_];rfl
  have e:x∈s++BC k:=List.mem_reverse.1 hx
  have i:x.toNat=48:=Decidable.byContradiction λ q=>l ⟨x,e,q⟩
  have:x=48:=UInt8.toNat_inj.1 (by rw[i];rfl)
  rw[this];decide
 rw[this]at j;simp[len]at j
def ZJ(n:Nd)(above:Bool):Nd×Int:=CH n.neg ((if n.neg=above then OZ else OY) (n.s++BC (n.e-OO n above))) (OO n above)
def JV(n:Nd)(above:Bool):Nd×Bool:=
 if n.s=[]then(⟨3,0,[],[49], !above,-1000⟩,true)
 else if(ZJ n above).2≠0 then(D9 0,false)else((ZJ n above).1,true)
def IW(n:Nd)(above:Bool):List Nd:=if(JV n above).2=true then [(JV n above).1]else []
def L5(a:Tm):List Nd:=if a.c.kind=3 then [a.c]++IW a.c true++IW a.c false else []
def GY(l:List Tm):List Nd:=HU++l.flatMap L5++[D9 4]++l.flatMap HE
theorem gX(l:List Tm):GY l=HU++l.flatMap L5++[D9 4]++l.flatMap HE:=rfl
def T3(mask:Int)(l:List Tm):Nd×Bool:=match(GY l).find? (T2 mask l)with
 |some x=>(x,true)
 |none=>(D9 0,false)
theorem gY{α β:Type}{f:α->List β}{n:Int}(h: ∀x,len (f x)<=n): ∀l:List α,len (l.flatMap f)<=n*len l
 |[]=>by show(0:Int)<=n*0;omega
 |x::l=>by
  rw[List.flatMap_cons,AO,AL,Int.mul_add,Int.mul_one]
  have:=gY h l
  have:=h x
  omega
theorem uO(n:Nd)(b:Bool):len (IW n b)<=1:=by unfold IW;split<;>simp only[AL,len_nil]<;>omega
theorem Au1(a:Tm):len (L5 a)<=3:=by
 have h1:=uO a.c true
 have b:=uO a.c false
 unfold L5;split
 ·simp only[AO,AL,len_nil];omega
 ·show(0:Int)<=3;decide
theorem Au2(l:List Tm):len (GY l)<=5+5*len l:=by
 have h1:=gY Au1 l
 have b:=gY Ak0 l
 rw[gX,AO,AO,AO]
 have e:len HU=4:=rfl
 have h:len [D9 4]=1:=rfl
 omega
structure AtR (a:Tm):Prop where
 num:a.c.kind=3->QI a.c
 s:len a.c.s<=1000000
 e: -1048576<=a.c.e/\a.c.e<=1048576
theorem Au3(neg:Bool)(s:A0)(e:Int):GX (CH neg s e).1.s:=by
 unfold CH
 split
 ·rename_i j
  split
  ·intro b h;cases h
  ·split
   ·intro b h;cases h
   ·split
    ·intro b h;cases h
    ·intro b h
     have h1:=s7 j
     have k:b∈AW s:=by
      have i:b∈BG (AW s):=h
      unfold BG Lib.trimRightS at i
      exact List.mem_reverse.1 ((List.dropWhile_sublist _).subset (List.mem_reverse.1 i))
     exact h1 b ((List.dropWhile_sublist _).subset k)
 ·intro b h;cases h
theorem Au4{l:List Tm}(q: ∀a∈l,AtR a): ∀x∈GY l,L4 x:=by
 have z: ∀k,L4 (D9 k):=λ k=>⟨⟨by show len ([]:A0)<=_;decide,by show(-1048576:Int)<=0;decide,by show(0:Int)<=_;decide⟩,λ _ b y=>by cases y⟩
 have own: ∀a∈l,L4 a.c:=λ a h=>⟨⟨by have:=(q a h).s;omega,(q a h).e.1,(q a h).e.2⟩,λ A=>((q a h).num A).fig⟩
 have n: ∀(c:Nd) (i:Bool),∀x∈IW c i,L4 x:=λ c i x hx=>by
  unfold IW at hx
  split at hx
  ·rename_i w
   rw[List.mem_singleton.1 hx]
   unfold JV at w ⊢
   split at w
   ·rw[if_pos (by assumption)];exact⟨⟨by show len ([49]:A0)<=_;decide,by show(-1048576:Int)<= -1000;decide,by show(-1000:Int)<=_;decide⟩,λ _ b y=>by rw[List.mem_singleton.1 y];decide⟩
   ·rw[if_neg (by assumption)]
    split at w
    ·cases w
    ·rename_i h0
     rw[if_neg h0]
     exact⟨gD _ _ _ (Decidable.not_not.1 h0),λ _=>Au3 _ _ _⟩
  ·cases hx
 intro x hx
 rw[gX,HU]at hx
 simp only[List.mem_append,List.mem_cons,List.not_mem_nil,or_false,List.mem_flatMap]at hx
 rcases hx with((hx|⟨a,j,hx⟩)|hx)|⟨a,j,hx⟩
 ·rcases hx with rfl|rfl|rfl|rfl<;>exact z _
 ·unfold L5 at hx
  split at hx
  ·simp only[List.mem_append,List.mem_singleton]at hx
   rcases hx with(rfl|hx)|hx
   ·exact own a j
   ·exact n _ _ _ hx
   ·exact n _ _ _ hx
  ·cases hx
 ·rw[hx];exact z _
 ·unfold HE at hx
  split at hx
  ·simp only[List.mem_cons,List.not_mem_nil,or_false]at hx
   rcases hx with rfl|rfl
   ·exact own a j
   ·have:=(q a j).s
    exact⟨⟨by show len (a.c.s++[0])<=_;rw[AO];simp only[AL,len_nil];omega,by show(-1048576:Int)<=0;decide,by show(0:Int)<=_;decide⟩,λ A=>by cases A⟩
  ·cases hx
end Go.Eng
namespace Go.Proofs.YtnoegalemkbbbaaGreatDoor
open Go.Proofs.Tryz
open Go.Eng
theorem uP(c:Nd)(b:Bool)(w:World)(C:QI c):Calls prog 157 [ES c,.bool b].toArray w λ e w'=>e= .returned (.tuple #[ES (JV c b).1,.bool (JV c b).2])/\Ext w w':=by
 have N:=A8 c.s
 have O:=C.len
 have P:=C.e
 refine AH AF func157 U ntmps157 [] [] [D1 c,.v (.bool b)] U (BE w) A3 (λ B G=>BM 2 U U U λ D=>B9 4 U zeroValue46 U λ F=>?_) U
 refine A1 U (λ h1=>?_) (λ h1=>?_)<;>simp only[zb]at h1
 ·refine A2 G U U U λ w M j=>⟨?_,j.st.low⟩
  unfold JV;rw[if_pos h1];rfl
 refine CQ 0 (λ s=> ∃top:Int,top=len c.s+c.e-(if c.neg=b/\c.s=[49]then 1 else 0)/\
   s=⟨[],[(2,EK D c),(4,EK F (D9 0))],[Z 2 (.bx 2 D 0),Z 4 (.bx 4 F 0),Z 5 (.v (.bool false)),Z 6 (I top),Z 7 (.v (.bool (c.neg != b)))]⟩) U U (λ h=>?_) (λ h=>?_) ?_
 ·exact AT _ U U ⟨_,by rw[if_pos (by simpa using h)],rfl⟩
 ·exact AT _ U U ⟨_,by rw[if_neg (by simpa using h),Int.sub_zero],rfl⟩
 rintro _ ⟨top,i,rfl⟩
 have Q: -1001<=top/\top<=1000:=by rw[i];split<;>omega
 have k:=sA i
 obtain⟨z,K⟩: ∃z,z=OO c b:=⟨_,rfl⟩
 rw[<-K]at k
 have R: -1000<=z/\z<=c.e:=by rw[<-k,i];split<;>split<;>omega
 have H:=NX (c.e-z) Aa
 obtain⟨y,n⟩: ∃y,y=c.s++BC (c.e-z):=⟨_,rfl⟩
 have S:len y<=10000:=by rw[n,AO,H];omega
 have A:GX y:=by rw[n];exact gC C.fig _
 have l:ZJ c b=CH c.neg ((if c.neg=b then OZ else OY) y) z:=by unfold ZJ;rw[n,K]
 refine AR (I z) U U (λ w M j=>by rw[<-k];exact PV.max2 (A7 (v:=I (top-100)) (E:=[]) U) (A7 (v:=I (-1000)) (E:=[]) U)) <|AJ (u:=str y) U call183 U U (λ _ w M j=>by rw[n];exact At5 c z w Aa Aa Aa) U <|CQ 0 (λ s=> ∃q:A0,q=(if c.neg=b then OZ else OY) y/\s=⟨[],[(2,EK D c),(4,EK F (D9 0))],[Z 2 (.bx 2 D 0),Z 4 (.bx 4 F 0),Z 5 (.v (.bool false)),Z 8 (I z),Z 9 (.v (str q))]⟩) U U (λ h=>?_) (λ h=>?_) ?_
 ·have J: ¬c.neg=b:=by simpa using h
  exact AJ U call184 U U (λ _ w M j=>At6 y w A Aa) U <|AT _ U U ⟨_,by rw[if_neg J],rfl⟩
 ·have J:c.neg=b:=by simpa using h
  exact AJ U call185 U U (λ _ w M j=>At7 y w A Aa (by rw[n];exact Au0 h1 (C.trim h1) _)) U <|AT _ U U ⟨_,by rw[if_pos J],rfl⟩
 rintro _ ⟨q,L,rfl⟩
 have T:len q<=10001:=by rw[L];split;rw[At9];omega;rw[At8];omega
 rw[<-L]at l
 refine AJ U call186 U U (λ _ w M j=>AT5 c.neg q z w Aa) U <|B9 10 U zeroValue46 U λ V=>?_
 refine A1 U (λ h=>?_) (λ h=>?_)<;>simp only[zb]at h
 ·refine A2 G U U U λ w M j=>⟨?_,j.st.low⟩
  unfold JV;rw[if_neg h1,l,if_pos h];rfl
 ·refine A2 G U U U λ w M j=>⟨?_,j.st.low⟩
  unfold JV;rw[if_neg h1,l,if_neg Aa];rfl
theorem Au5{w:World}{M:Mem}(v:Value)(l:List Tm)(P:Sat w M)(hl:(kn v 7 l C2).ok M)(hb:len l<=1048576)(Q: ∀a∈l,a.c.kind=3->QI a.c)(hs: ∀a∈l,len a.c.s<=1048575):
    Calls prog 98 [v].toArray w (MP w M (λ u:Value=>u) (λ _=>True) (λ u=>[(0,kn u 6 (GY l) Nd.cells)])):=by
 have R:=A8 l
 refine AH (Hr:=[]) AF func98 U ntmps98 [(10,kn v 7 l C2)] [] [.sl 10 v] U (Aj P) (AD hl A3) (λ B S=>BH 13 HU Nd.cells 6 46 Nd.AS U U Ah U λ T=>?_) U
 refine B7 (σ:=Int×Value×List Nd) (λ(k,u,y)=>⟨[(10,kn v 7 l C2),(13,kn u 6 y Nd.cells)],[(13,.ho (.own 46 6 u y.length (y.flatMap Nd.cells)))],[Z 0 (.sl 10 v),Z 3 (.sl 13 u),Z 4 (I k)]⟩)
  (λ(k,u,y)=>0<=k/\k<=len l/\y=HU++(Eng.sub l 0 k).flatMap L5/\len y<=4+3*k) (λ(k,u,y)=>(len l-k).toNat) (0,T,HU) U U ⟨Aa,Aa,by show HU=HU++[];rw[List.append_nil],Ab⟩ ?_
 rintro⟨k,u,y⟩ ⟨h0,h1,q,V⟩
 refine A1 U (λ e=>?_) (λ e=>?_)<;>simp only[zb]at e
 ·obtain⟨a,i⟩: ∃a,a=at' l k:=⟨_,rfl⟩
  have D:a∈l:=by rw[i];exact at_mem h0 e
  have j:=G0 h0 e
  rw[<-i]at j
  refine A1 U (λ b=>?_) (λ b=>?_)<;>simp only[zb]at b<;>rw[<-i]at b
  ·refine AX (k+1,u,y) U U ⟨Aa,Aa,?_,Aa⟩ Ag
   rw[j,KW,show L5 a=[]from by unfold L5;rw[if_neg b],List.append_nil];exact q
  have F:a.c.kind=3:=by omega
  have G:=Q a D F
  refine BH 32 [(at' l k).c] Nd.cells 6 46 Nd.AS U U Ah U λ v32=>F4 64 U U U underlying32 type46 U U Nd.cells_one (by simp only[AL,len_nil];omega) λ v1=>AJ U call157 U U (λ _ w M K=>uP (at' l k).c true w (by rw[<-i];exact G)) U <|B9 5 U zeroValue46 U λ b5=>CQ 0 (λ s=> ∃(u:Value) (z:List Nd),z=y++[a.c]++IW a.c true/\len z<=len y+2/\s=⟨[(10,kn v 7 l C2),(13,kn u 6 z Nd.cells)],[(13,.ho (.own 46 6 u z.length (z.flatMap Nd.cells)))],[Z 0 (.sl 10 v),Z 3 (.sl 13 u),Z 4 (I k)]⟩) U U (λ A=>?_) (λ A=>?_) ?_
  ·exact BH 51 [(JV (at' l k).c true).1] Nd.cells 6 46 Nd.AS U U Ah U λ v50=>F4 64 U U U underlying32 type46 U U Nd.cells_one (by simp only[AO,AL,len_nil];omega) λ v2=>AT _ U U ⟨v2,y++[(at' l k).c]++[(JV (at' l k).c true).1],by rw[<-i]at A ⊢;unfold IW;rw[if_pos A],by simp only[AO,AL,len_nil];omega,rfl⟩
  ·exact AT _ U U ⟨v1,y++[(at' l k).c],by rw[<-i]at A ⊢;unfold IW;rw[if_neg (by rw[A];decide),List.append_nil],by simp only[AO,AL,len_nil];omega,rfl⟩
  rintro _ ⟨W,O,n,L,rfl⟩
  refine AJ U call157 U U (λ _ w M K=>uP (at' l k).c false w (by rw[<-i];exact G)) U <|B9 7 U zeroValue46 U λ b7=>?_
  have H:L5 a=[a.c]++IW a.c true++IW a.c false:=by unfold L5;rw[if_pos F]
  refine A1 U (λ C=>?_) (λ C=>?_)
  ·refine BH 61 [(JV (at' l k).c false).1] Nd.cells 6 46 Nd.AS U U Ah U λ v60=>F4 64 U U U underlying32 type46 U U Nd.cells_one (by simp only[AO,AL,len_nil];omega) λ v3=>AX (k+1,v3,O++[(JV (at' l k).c false).1]) U U ⟨Aa,Aa,?_,by simp only[AO,AL,len_nil];omega⟩ Ag
   rw[<-i]at C
   rw[j,KW,H,<-List.append_assoc,<-q,<-i,n,show IW a.c false=[(JV a.c false).1]from by unfold IW;rw[if_pos C]]
   simp
  ·refine AX (k+1,W,O) U U ⟨Aa,Aa,?_,Aa⟩ Ag
   rw[<-i]at C
   rw[j,KW,H,<-List.append_assoc,<-q,n,show IW a.c false=[]from by unfold IW;rw[if_neg (by rw[C];decide)]]
   simp
 have E:k=len l:=by omega
 subst E
 rw[GD (Int.le_refl _)]at q
 refine BH 56 [D9 4] Nd.cells 6 46 Nd.AS U U Ah U λ X=>F4 64 U U U underlying32 type46 U U Nd.cells_one (by simp only[AL,len_nil];omega) λ N=>?_
 refine B7 (σ:=Int×Value×List Nd) (λ(k,u,z)=>⟨[(10,kn v 7 l C2),(13,kn u 6 z Nd.cells)],[(13,.ho (.own 46 6 u z.length (z.flatMap Nd.cells)))],[Z 0 (.sl 10 v),Z 3 (.sl 13 u),Z 9 (I k)]⟩)
  (λ(k,u,z)=>0<=k/\k<=len l/\z=HU++l.flatMap L5++[D9 4]++(Eng.sub l 0 k).flatMap HE/\len z<=5+3*len l+2*k) (λ(k,u,z)=>(len l-k).toNat) (0,N,y++[D9 4]) U U ⟨Aa,Aa,by rw[q];simp[Eng.sub],by rw[AO];simp only[AL,len_nil];omega⟩ ?_
 rintro⟨k,u,z⟩ ⟨J,hk1,n,L⟩
 refine A1 U (λ e=>?_) (λ e=>?_)<;>simp only[zb]at e
 ·obtain⟨a,i⟩: ∃a,a=at' l k:=⟨_,rfl⟩
  have D:a∈l:=by rw[i];exact at_mem J e
  have j:=G0 J e
  rw[<-i]at j
  have hsa:=hs a D
  refine A1 U (λ b=>?_) (λ b=>?_)<;>simp only[zb]at b<;>rw[<-i]at b
  ·refine D7 [14,15,16] 4 (λ _ _ _ _ _ h=>h) U BK Ac <|AK 14 U (hO:=by first|omega|(rw[<-i];simp only[AL,len_nil];and_intros<;>first|omega|trivial)) U U <|BH 76 [(at' l k).c,⟨4,0,[],(at' l k).c.s++[0],false,0⟩] Nd.cells 6 46 Nd.AS U U Ah U λ v76=>AE U <|AK 15 U (hO:=by first|omega|(rw[<-i];simp only[AL,len_nil];and_intros<;>first|omega|trivial)) U U <|F4 64 U U U underlying32 type46 U U Nd.cells_one (by simp only[AL,len_nil];omega) λ v77=>AE U <|AK 16 U (hO:=by first|omega|(rw[<-i];simp only[AL,len_nil];and_intros<;>first|omega|trivial)) U U <|AE U <|BL U (hO:=by first|omega|(rw[<-i];simp only[AL,len_nil];and_intros<;>first|omega|trivial)) U U <|AX (k+1,v77,z++[(at' l k).c,⟨4,0,[],(at' l k).c.s++[0],false,0⟩]) U U ⟨Aa,Aa,?_,by rw[AO];simp only[AL,len_nil];omega⟩ Ag
   rw[j,KW,<-List.append_assoc,<-n,<-i,show HE a=[a.c,⟨4,0,[],a.c.s++[0],false,0⟩]from by unfold HE;rw[if_pos b]]
  ·refine AX (k+1,u,z) U U ⟨Aa,Aa,?_,Aa⟩ Ag
   rw[j,KW,show HE a=[]from by unfold HE;rw[if_neg b],List.append_nil];exact n
 have E:k=len l:=by omega
 subst E
 rw[GD (Int.le_refl _),<-gX]at n
 subst n
 exact A2 S U U U λ w M K=>⟨u,M,rfl,trivial,K.st.done,AD (K.f.get (k:=13) U) A3⟩
theorem gZ{w:World}{M:Mem}(mask:Int)(v:Value)(l:List Tm)(G:Sat w M)(hl:(kn v 7 l C2).ok M)(H:len l<=1048576)(i: ∀a∈l,AtR a)(hm:0<=mask/\mask<=31):
    Calls prog 40 [i64 mask,v].toArray w λ e w'=>e= .returned (.tuple #[ES (T3 mask l).1,.bool (T3 mask l).2])/\Ext w w':=by
 have z:=Au4 i
 have J: ∀a∈l,L4 a.c:=λ a h=>⟨⟨by have:=(i a h).s;omega,(i a h).e.1,(i a h).e.2⟩,λ D=>((i a h).num D).fig⟩
 refine AH (Hr:=[]) AF func40 U ntmps40 [(1,kn v 7 l C2)] [] [I mask,.sl 1 v] U (Aj G) (AD hl A3) (λ B E=>B9 4 U zeroValue46 U λ F=>FM (λ u:Value=>.sl 6 u) [6] (Fg:=λ u=>[(0,kn u 6 (GY l) Nd.cells)]) (pu:=λ _=>True) U U call98 U (λ w M b=>Au5 v l b.st.sat (b.f.get (k:=1) U) H (λ a h=>(i a h).num) (λ a h=>by have:=(i a h).s;omega)) λ u _=>?_) U
 have K:len (GY l)=((GY l).length:Int):=rfl
 have L:=Au2 l
 have N:=A8 l
 refine B7 (σ:=Nat) (λ k=>⟨[(1,kn v 7 l C2),(6,kn u 6 (GY l) Nd.cells)],[(4,EK F (D9 0))],[Z 0 (I mask),Z 1 (.sl 1 v),Z 4 (.bx 4 F 0),Z 5 (.v (.bool false)),Z 6 (.sl 6 u),Z 7 (I k)]⟩) (λ k=>k<=(GY l).length/\ ∀x∈(GY l).take k,T2 mask l x=false) (λ k=>(GY l).length-k) 0 U U ⟨Nat.zero_le _,λ x hx=>by simp at hx⟩ ?_
 rintro k ⟨D,j⟩
 refine A1 U (λ y=>?_) (λ y=>?_)<;>simp only[zb]at y
 ·have n:k<(GY l).length:=by omega
  have A:at' (GY l) (k:Int)∈GY l:=at_mem Aa Aa
  refine AJ U call42 U U (λ _ w M b=>At4 mask v l (at' (GY l) (k:Int)) w M b.st.sat (b.f.get (k:=1) U) Aa J (z _ A) hm) U <|A1 U (λ q=>?_) (λ q=>?_)
  ·refine A2 E U U U λ w M b=>⟨?_,b.st.low⟩
   unfold T3;rw[sD n j q];rfl
  ·exact AX (k+1) U U ⟨n,sF n j q⟩ (by show(GY l).length-(k+1)<(GY l).length-k;omega)
 ·have C:k=(GY l).length:=by omega
  refine A2 E U U U λ w M b=>⟨?_,b.st.low⟩
  unfold T3;rw[sE (by rw[<-C];exact j)];rfl
theorem drop_at{α:Type}[Inhabited α]{l:List α}{k:Nat}(h:k<l.length):l.drop k=at' l (k:Int)::l.drop (k+1):=by
 obtain⟨h1,b⟩:=CE l (i:=(k:Int)) Aa (by unfold len;omega)
 rw[b,List.drop_eq_getElem_cons h];simp
theorem Au6{x:Tf}{k:Nat}{i:Int}(b:k<x.ps.length)(hs:BS x.flat i (x.ps.drop k)):BS x.flat i (at' x.ps (k:Int)::x.ps.drop (k+1)):=by rw[<-drop_at b];exact hs
theorem Au7(x:Tf)(v:Value)(w:World)(M:Mem)(G:Sat w M)(H:Sl M 11 x.flat.length v (x.flat.flatMap Tm.cells))(J:len x.flat<=1048576):
   Calls prog 56 [v].toArray w (MP w M (λ g:Value×List AI=>g.1) (λ g=>len g.2=len x.ps) (λ g=>[(0,C9 g.1 g.2 (DL x))])):=by
 have K:(at' x.flat 0).many=len x.ps:=by rw[x.CU];rfl
 have E:=Tf.EW x
 have L:len x.ps=(x.ps.length:Int):=rfl
 have N:=LZ x.ps
 have O:len x.flat=1+AB x.ps:=by unfold len;rw[Tf.D5,Tf.size_eq];omega
 refine AH (Hr:=[]) AF func56 U ntmps56 [(0,A6 v x.flat)] [] [.sl 0 v] U (Aj G) (fc 0 H Tm.AS A3) (λ B P=>BH 1 [] BX 1 23 E5 U U Ah U λ u=>CL U Ad Aa (DW 6 (C9 u [] ((DL x).take 0)) (λ w M e=>⟨e.sl 1 U,E5,trivial⟩) ?_)) U
 refine B7 (σ:=Nat×Int×Value×List AI) (λ(k,i,u,hs)=>⟨[(0,A6 v x.flat),(1,kn u 1 hs BX),(6,C9 u hs ((DL x).take k))],[(1,.ho (UT u hs))],[Z 0 (.sl 0 v),Z 3 (.sl 1 u),Z 4 (I i),Z 5 (I k)]⟩) (λ(k,i,u,hs)=>k<=x.ps.length/\BS x.flat i (x.ps.drop k)/\len hs=k) (λ(k,i,u,hs)=>x.ps.length-k) (0,1,u,[]) U U ⟨Aa,x.AV5,rfl⟩ ?_
 rintro⟨k,i,u,hs⟩ ⟨T,z,A⟩
 refine A1 U (λ h1=>?_) (λ h1=>?_)<;>simp only[zb]at h1
 ·have j:k<x.ps.length:=by omega
  have b:=Au6 j z
  obtain⟨y,F⟩: ∃y,y=at' x.ps (k:Int):=⟨_,rfl⟩
  rw[<-F]at b
  have l:=SE b
  have hle:=b.le
  have C:=b.node
  have Q:=y.size_pos
  rw[AB]at hle
  have h:=AV6 b
  rw[<-l]at h
  have R:len y.flat=y.size:=by unfold len;rw[Tf.D5]
  refine AJ U call112 U U (λ _ w M e=>ZF x.flat v i M w e.st.sat (e.sl 0 U) J Aa Aa) U <|IG 3 ([]:List Tm) Tm.cells 11 48 Tm.AS U U Ah U λ v3=>ET (gd:=none) 4 i (GV x.flat i) U U U ⟨.i64,_,rfl,AG U⟩ ⟨.i64,_,rfl,AG U⟩ underlying23 sizeOf48 Aa U λ v4=>?_
  rw[h]
  refine G9 120 U U U underlying23 type48 U U Tm.cells_one (by rw[len_nil];omega) λ v5=>?_
  rw[List.nil_append]
  refine B9 5 U zeroValue48 U λ V=>I2 { at' y.flat 0 with name:=[]} rfl U U sizeOf48 U U U Aa λ W n=>?_
  rw[show((0:Int).toNat)=0 from rfl,Tf.XY]at n
  subst n
  refine C6 3 U <|RG 3 U λ a q S=>?_
  obtain⟨s,D⟩: ∃s:AI,v5=s.v:=⟨⟨a,_,q⟩,S⟩
  subst D
  refine BH 7 [s] BX 1 23 E5 U U Ah U λ X=>F4 24 U U U underlying55 type23 U U O7 (by simp only[AL,len_nil];omega) λ v'=>CL U Ad Aa (DW 6 (C9 v' (hs++[s]) ((DL x).take (k+1))) (λ w M e=>⟨e.sl 1 U,E5,by rw[mR j,<-F];exact B5.snoc (e.sl 3 U) (e.f.get (k:=6) U).more⟩) ?_)
  exact AX (k+1,GV x.flat i,v',hs++[s]) U U ⟨Aa,by rw[l];exact b.rest,by rw[AO,A];rfl⟩ (by show x.ps.length-(k+1)<x.ps.length-k;omega)
 ·refine A2 P U U U λ w M e=>⟨(u,hs),M,rfl,by show len hs=_;omega,e.st.done,AD ?_ A3⟩
  have:=e.f.get (k:=6) U
  rw[List.take_of_length_le (by simp[DL];omega)]at this
  exact this
end Go.Proofs.YtnoegalemkbbbaaGreatDoor
namespace Go.Eng
def T4(n:Int):Nat->A0
 |0=>[]
 |k+1=>if IM n k=true then(if T4 n k=[]then []else T4 n k++[124])++at' RY (k:Int)else T4 n k
end Go.Eng
namespace Go.Proofs.YtnoegalemkbbbaaGreatDoor
open Go.Proofs.Tryz
open Go.Eng
end Go.Proofs.YtnoegalemkbbbaaGreatDoor
namespace Go.Eng
theorem uQ: ∀ {l:List Tf},HS l=true-> ∀x∈l,M5 x=true
 |[],_,x,h=>by cases h
 |y::l,h,x,hx=>by
  rw[HS,Bool.and_eq_true]at h
  rcases List.mem_cons.1 hx with rfl|hx
  ·exact h.1
  ·exact uQ h.2 x hx
theorem uR{x:Tf}(h:M5 x=true):GW x.node=true/\EO x.t.op none x.ps=true/\OK x.t x.ps=true/\HS x.ps=true:=by
 rw[rM]at h
 simp only[Bool.and_eq_true]at h
 exact⟨h.1.1.1,h.1.1.2,h.1.2,h.2⟩
end Go.Eng
namespace Go.Proofs.YtnoegalemkbbbaaGreatDoor
open Go.Proofs.Tryz
open Go.Eng
end Go.Proofs.YtnoegalemkbbbaaGreatDoor
namespace Go.Eng
open Go.RowKit
theorem LS.Au8 {s r:A0}{u:List Tk}(hs:FK s=true)(b: ∀c r',r=c::r'->CF (c.toNat:Int) false=false)(hl:LS r u):LS (s++r) (VB s 0::u):=by
 obtain⟨h1,e⟩:=Z3 hs
 cases s with
 |nil=>exact absurd U h1
 |cons c w=>exact .tok (by simp) (Ad8 e b) hl
def ZK(n:Int):Nat->List Tk
 |0=>[]
 |k+1=>if IM n k=true then(if T4 n k=[]then []else ZK n k++[gM [124]])++[Z4 (at' RY (k:Int))]else ZK n k
theorem Au9{k:Nat}(h:k<5):FK (at' RY (k:Int))=true:=by
 rcases(by omega:k=0\/k=1\/k=2\/k=3\/k=4)with rfl|rfl|rfl|rfl|rfl<;>decide+kernel
theorem LS.mask (n:Int): ∀(k:Nat) {r:A0} {u:List Tk},k<=5->(∀c r',r=c::r'->CF (c.toNat:Int) false=false)->LS r u->LS (T4 n k++r) (ZK n k++u)
 |0,r,u,_,_,hl=>hl
 |k+1,r,u,h,b,hl=>by
  have hw:=LS.Au8 (Au9 (k:=k) Aa) b hl
  rw[T4,ZK]
  split
  ·split
   ·exact hw
   ·simp only[List.append_assoc]
    exact LS.mask n k Aa (λ c r' e=>by rw[<-(List.cons.inj e).1];decide) (.mark Ab hw)
  ·exact LS.mask n k Aa b hl
theorem Av0{x:Tf}(h:M5 x=true)(ho:x.t.op=7\/x.t.op=8): ∃p:List Sp,p.length<=20/\(∀y∈p,y.B3)/\x.t.s=DM p/\(D0 x.t.s).1=p/\(∀y∈p,y.part=false):=by
 have hp:=(uR h).1
 unfold GW JN at hp
 have e:x.node.op=x.t.op:=rfl
 have es:x.node.s=x.t.s:=rfl
 rw[if_neg Aa,if_neg Aa,if_neg Aa,if_neg Aa,if_neg Aa,if_neg Aa,if_pos Aa]at hp
 simp only[Bool.and_eq_true]at hp
 have b:=hp.2.2
 unfold HR at b
 simp only[Bool.and_eq_true,es]at b
 obtain⟨p,p1,p2,p3,p4⟩:=pA (s:=x.t.s) b.1
 refine⟨p,p1,p2,p3,p4,λ y j=>?_⟩
 have i:=b.2
 rw[p4]at i
 cases hyp:y.part with
 |false=>rfl
 |true=>
  have:p.any (λ x=>x.part)=true:=List.any_eq_true.2 ⟨y,j,hyp⟩
  rw[this]at i;cases i
theorem Av1(s:A0)(i:Int)(h0:0<=i):((Lib.decodeL (A5 s i)).1:Int)=B2 s i/\((Lib.decodeL (A5 s i)).2:Int)=runeLen s i:=by
 have h:Lib.decodeL (A5 s i)=Utf8.decode ⟨⟨s⟩⟩ i.toNat:=(RO s i h0).symm
 rw[h];exact⟨rfl,rfl⟩
theorem Av2(s:A0): ∀(n:Nat) (i:Int),0<=i->(len s-i).toNat<=n->GO s i=true->Lib.validD (A5 s i)=true:=by
 intro n
 induction n with
 |zero=>
  intro i h0 k _
  have:A5 s i=[]:=by unfold A5;exact List.drop_eq_nil_of_le (by unfold len at k;omega)
  rw[this];rfl
 |succ n l=>
  intro i h0 k hu
  by_cases h1:i<len s
  ·have b:A5 s i≠[]:=by
    intro e
    have:(A5 s i).length=0:=by rw[e];rfl
    unfold A5 at this;rw[List.length_drop]at this;unfold len at h1;omega
   unfold GO at hu
   rw[dif_pos ⟨h0,h1⟩]at hu
   obtain⟨d1,d2⟩:=Av1 s i h0
   rcases LP h0 h1 with⟨q,_⟩|⟨q,hl,j,_⟩
   ·rw[dif_neg Aa]at hu;cases hu
   ·rw[dif_pos Aa]at hu
    rw[Lib.validD_step _ b,if_neg (by intro h;exact j ⟨Aa,Aa⟩)]
    have e:(A5 s i).drop (Lib.decodeL (A5 s i)).2=A5 s (i+rune s i):=by
     rw[<-K4 s i (rune s i) h0 Aa]
     show _=(A5 s i).drop (rune s i).toNat
     rw[show(Lib.decodeL (A5 s i)).2=(rune s i).toNat by omega]
    rw[e]
    exact l _ Aa Aa hu
  ·have:A5 s i=[]:=by unfold A5;exact List.drop_eq_nil_of_le (by unfold len at h1;omega)
   rw[this];rfl
theorem uS{s:A0}(h:DJ s=true):Lib.validD s=true:=by
 have:=Av2 s (len s-0).toNat 0 Aa (Nat.le_refl _) h
 simpa[A5]using this
theorem Av3{α:Type}[Inhabited α](A B:List α){i:Int}(h0:0<=i):at' (A++B) (len A+i)=at' B i:=by
 unfold at'
 rw[show(len A+i).toNat=A.length+i.toNat by unfold len;omega,List.getD_eq_getElem?_getD,List.getD_eq_getElem?_getD,List.getElem?_append_right Aa,Nat.add_sub_cancel_left]
def ZL(f:Fl):Option Int->Bool
 |some o=>(at' f o).op==1
 |none=>false
theorem Av4(p:List Sp)(x:Tf):QE p x=ZL x.flat (EP p x):=by
 unfold QE ZL;rfl
theorem hY: ∀(p:List Sp) (x:Tf),(B1 p x).2=ZL x.flat (EP p x)
 |[],x=>by
  show decide (x.t.op=1)=((at' x.flat 0).op==1)
  rw[Tf.G1]
  show decide (x.t.op=1)=(x.t.op==1)
  by_cases h:x.t.op=1<;>simp[h]
 |s::p,x=>by
  unfold B1 EP
  by_cases hc:x.t.op≠2\/s.part=true
  ·rw[if_pos hc,if_pos hc];rfl
  ·rw[if_neg hc,if_neg hc,Tf.G1]
   have key: ∀(l:List Tf) (A:Fl) (o:Int),len A=o->(EJ l o s.name (B1 p)).2=ZL (A++AN l) (JO l o s.name (EP p)):=by
    intro l
    induction l with
    |nil=>intro A o ho;rfl
    |cons y l i=>
     intro A o ho
     unfold EJ JO
     by_cases hn:y.t.name=s.name
     ·rw[if_pos hn,if_pos hn]
      have b:=hY p y
      cases hl:EP p y with
      |none=>
       rw[hl]at b
       have b:(B1 p y).2=false:=b
       rw[b,if_neg Ab];rfl
      |some k=>
       obtain⟨e,j⟩:=YW p y k hl
       rw[hl]at b
       have b:(B1 p y).2=((at' y.flat k).op==1):=b
       show _=((at' (A++(y.flat++AN l)) (o+k)).op==1)
       rw[<-ho,Av3 A _ e,mQ _ _ e (by unfold len;rw[Tf.D5];omega),<-b]
       cases (B1 p y).2<;>rfl
     ·rw[if_neg hn,if_neg hn,show o+(y.size:Int)=o+len y.flat by unfold len;rw[Tf.D5]]
      have:=i (A++y.flat) (o+len y.flat) (by rw[AO,ho])
      rw[List.append_assoc]at this
      exact this
   exact key x.ps [x.node] 1 U
theorem uT{l:A0}{c:UInt8}(h: ∀a q,l=a::q->a≠c):Lib.trimLeftB l c=l:=by
 cases l with
 |nil=>rfl
 |cons a q=>unfold Lib.trimLeftB;rw[List.dropWhile_cons];simp[h a q U]
theorem Av5{s:A0}(hs:s≠[])(h0:A4 s 0≠48)(h1:A4 s (len s-1)≠48):Lib.trimB s 48=s:=by
 have h:Lib.trimRightB s 48=s:=by
  show(Lib.trimLeftB s.reverse 48).reverse=s
  rw[uT λ a q e=>?_,List.reverse_reverse]
  have e2:s=q.reverse++[a]:=by rw[<-List.reverse_reverse s,e,List.reverse_cons]
  intro b
  apply h1
  rw[e2,AO,show len [a]=1 from rfl,show len q.reverse+1-1=len q.reverse by omega]
  have:=Y8 (u:=q.reverse) (v:=[a]) (k:=0) (Int.le_refl 0)
  rw[Int.add_zero,FT]at this
  rw[this,b];rfl
 unfold Lib.trimB
 rw[h,uT λ a q e=>?_]
 intro b
 apply h0
 rw[e,FT,b];rfl
theorem Av6{n:Nd}(h:IZ n=true):OF n=true:=by
 unfold IZ at h
 split at h
 ·cases h
 rename_i b
 simp only[Bool.or_eq_true,bne_iff_ne,ne_eq,Bool.not_eq_true',beq_eq_false_iff_ne,decide_eq_true_eq,not_or,Decidable.not_not,Bool.not_eq_false]at b
 obtain⟨⟨⟨⟨⟨⟨⟨e,c2⟩,c3⟩,c4⟩,c5⟩,i⟩,j⟩,k⟩:=b
 unfold OF
 rw[if_neg (by
  rintro(h|h|h|h|h|h|h|h)
  ·exact h e
  ·exact h c2
  ·exact h c3
  ·omega
  ·omega
  ·omega
  ·omega
  ·rw[c4]at h;cases h)]
 by_cases hs:n.s=[]
 ·rw[if_pos (by simp[hs])]at h
  rw[if_pos hs];simpa using h
 ·rw[if_neg (by simp[hs])]at h
  rw[if_neg hs]
  simp only[Bool.and_eq_true,bne_iff_ne]at h
  rw[Av5 hs h.1 h.2];simp
theorem Av7{n:Nd}(h:G3 n=true):JL n=true:=by
 unfold G3 K9 at h
 unfold JL
 by_cases h0:n.kind=0\/n.kind=1\/n.kind=2
 ·rw[if_pos h0]at h ⊢;exact h
 rw[if_neg h0]at h ⊢
 by_cases h3:n.kind=3
 ·rw[if_pos h3]at h ⊢;exact Av6 h
 rw[if_neg h3]at h ⊢
 by_cases h4:n.kind=4
 ·rw[if_pos h4]at h ⊢
  rw[Bool.and_eq_true]at h ⊢
  exact⟨uS h.1,h.2⟩
 rw[if_neg h4]at h ⊢
 exact h
theorem Av8{n:Int}{c:Nd}(h:YV n c=true):N4 n c=true:=by
 unfold YV at h
 unfold N4 GI
 simp only[Bool.and_eq_true,decide_eq_true_eq]at h ⊢
 exact⟨⟨h.1.1,h.1.2⟩,h.2.1,⟨Av7 h.2.2.2,h.2.2.1.1⟩,by have:=h.2.2.1.2;omega⟩
theorem Av9{t:Tm}(hp:(t.op=7\/t.op=8)->(H9 t.s).2=true)(h:GW t=true):HQ t=true:=by
 unfold GW JN at h
 unfold HQ I9
 by_cases h0:t.op=0
 ·rw[if_pos h0]at h ⊢;rw[Bool.and_comm];exact h
 rw[if_neg h0]at h ⊢
 by_cases h1:t.op=1
 ·rw[if_pos h1]at h ⊢
  simp only[Bool.and_eq_true,decide_eq_true_eq]at h ⊢
  exact⟨⟨⟨h.2.1.1,Aa⟩,h.2.2⟩,h.1⟩
 rw[if_neg h1]at h ⊢
 by_cases h9:t.op=9
 ·rw[if_pos h9]at h ⊢
  simp only[Bool.and_eq_true,decide_eq_true_eq]at h ⊢
  exact⟨⟨h.2.1,Av8 h.2.2⟩,h.1⟩
 rw[if_neg h9]at h ⊢
 by_cases h2:t.op=2
 ·rw[if_pos h2]at h ⊢
  simp only[Bool.and_eq_true,Bool.or_eq_true,beq_iff_eq,decide_eq_true_eq]at h ⊢
  exact⟨⟨⟨h.2.1,Aa⟩,Aa⟩,h.1⟩
 rw[if_neg h2]at h ⊢
 by_cases h4:t.op=4
 ·rw[if_pos h4]at h ⊢;rw[Bool.and_comm];exact h
 rw[if_neg h4]at h ⊢
 by_cases h3:t.op=3\/t.op=5\/t.op=6
 ·rw[if_pos h3]at h ⊢;rw[Bool.and_comm];exact h
 rw[if_neg h3]at h ⊢
 by_cases h7:t.op=7\/t.op=8
 ·rw[if_pos h7]at h ⊢
  simp only[Bool.and_eq_true,decide_eq_true_eq]at h ⊢
  exact⟨⟨hp h7,h.2.1⟩,h.1⟩
 rw[if_neg h7]at h ⊢
 simp at h
theorem Aw0{w u:A0}(hw:w≠[])(h0: ∀j:Int,0<=j->j<len w->CF (A4 w j) (j==0)=true)(hu: ∀c r,u=c::r->CF (c.toNat:Int) false=false):CP (w++u) 0=len w:=by
 have hl:=GL hw
 have e:=A8 u
 refine Q0 (n:=len w) (by rw[AO];omega) (λ j h1 b=>by rw[I5 h1 b];exact h0 j h1 b) (λ h=>?_) 0 (Int.le_refl _) Aa
 rw[nY (Int.le_refl _),Int.sub_self]
 cases u with
 |nil=>rw[AO,len_nil]at h;omega
 |cons c r=>rw[FT];rw[show(len w==0)=false from by simpa using(by omega:len w≠0)];exact hu c r U
theorem hZ(c:UInt8)(s r:A0):Eng.sub (c::(s++r)) 1 (len s+1)=s:=by
 unfold Eng.sub
 rw[show(len s+1).toNat=s.length+1 by unfold len;omega]
 simp
theorem uU{s r:A0}(hu:DJ s=true)(k: ∀c r',r=c::r'->CF (c.toNat:Int) false=false):EY ((46::EV s)++r)=(⟨false,s,0⟩,len (46::EV s)):=by
 have e:Lib.hasPrefix ((46::EV s)++r) [46]=true:=by rfl
 have l:A5 ((46::EV s)++r) 1=EV s++r:=rfl
 unfold EY
 rw[e,if_neg Ab,l,AL]
 unfold EV
 by_cases h:FK s=true
 ·obtain⟨h1,b⟩:=Z3 h
  have hl:=GL h1
  rw[if_pos h,Aw0 h1 b k,if_pos hl]
  show((⟨false,Eng.sub (46::(s++r)) 1 (len s+1),0⟩:Sp),len s+1)=_
  rw[hZ,Int.add_comm]
 ·rw[if_neg h,<-Y2 hu,eQ hu r]
  obtain⟨q,w⟩:=YM s
  have hw:CP (DZ s++r) 0=0:=by
   refine Q0 (n:=0) (by have:=A8 (DZ s++r);omega) (λ j h1 b=>by omega) (λ _=>?_) 0 (Int.le_refl _) (Int.le_refl _)
   rw[w,List.cons_append,FT];rfl
  rw[hw,if_neg Ab]
  have i:Eng.sub ((46::DZ s)++r) 1 (1+len (DZ s))=DZ s:=by
   rw[Int.add_comm];exact hZ 46 (DZ s) r
  rw[<-AS5,i,if_neg (by rintro(b|b|b);exact b rfl;exact h b;exact b rfl),Int.add_comm]
def BR(p:List Sp):A0:=(p.map Sp.CM).flatten
def MG(x:Sp):Prop:=x.part=false/\x.n=0/\DJ x.name=true
theorem MG.CM {x:Sp}(h:MG x):x.CM=46::EV x.name:=by
 unfold Sp.CM;rw[if_neg (by rw[h.1];decide)];rfl
theorem MG.eq {x:Sp}(h:MG x):(⟨false,x.name,0⟩:Sp)=x:=by
 obtain⟨a,b,c⟩:=x
 obtain⟨h1,e,_⟩:=h
 have h1:a=false:=h1
 have e:c=0:=e
 subst h1 e;rfl
theorem Aw1{p:List Sp}(h: ∀x∈p,MG x): ∀c r',BR p=c::r'->CF (c.toNat:Int) false=false:=by
 intro c r' e
 cases p with
 |nil=>cases e
 |cons x p=>
  unfold BR at e
  rw[List.map_cons,List.flatten_cons,(h x (.head _)).CM]at e
  rw[<-(List.cons.inj e).1];decide
theorem uV: ∀(p2 p1:List Sp) (A:A0) (f:Nat),(∀x∈p2,MG x)->p2.length<=f->FI f (A++BR p2) p1 (len A)=(p1++p2,len (A++BR p2))
 |[],p1,A,f,_,_=>by
  rw[show BR []=[]from rfl,List.append_nil,List.append_nil]
  cases f with
  |zero=>rfl
  |succ f=>rw[FI,if_neg Aa]
 |x::p2,p1,A,f,h,l=>by
  rw[List.length_cons]at l
  obtain⟨f,rfl⟩: ∃g,f=g+1:=⟨f-1,Aa⟩
  have hx:=h x (.head _)
  have j: ∀y∈p2,MG y:=λ y n=>h y (.tail _ n)
  have e:BR (x::p2)=(46::EV x.name)++BR p2:=by
   unfold BR;rw[List.map_cons,List.flatten_cons,hx.CM]
  have q:=A8 (EV x.name)
  have w:=A8 (BR p2)
  have b:=uU (s:=x.name) (r:=BR p2) hx.2.2 (Aw1 j)
  have i:EI (A++BR (x::p2)) (len A)=(x,len (46::EV x.name)):=by
   unfold EI
   rw[PZ,e,b,if_pos (by show len (46::EV x.name)≠0;rw[AL];omega),hx.eq]
  have k:=uV p2 (p1++[x]) (A++(46::EV x.name)) f j Aa
  rw[List.append_assoc,<-e,AO]at k
  rw[FI,if_pos (by rw[e,AO,AO,AL];omega),i,if_neg (by show ¬len (46::EV x.name)=0;rw[AL];omega)]
  show FI f (A++BR (x::p2)) (p1++[x]) (len A+len (46::EV x.name))=_
  rw[k,List.append_assoc];rfl
theorem uW{s:A0}(hu:DJ s=true):EV s≠[]:=by
 unfold EV
 by_cases h:FK s=true
 ·rw[if_pos h];exact(Z3 h).1
 ·rw[if_neg h,<-Y2 hu]
  obtain⟨q,b⟩:=YM s
  rw[b];simp
theorem Aw2{p:List Sp}(hl:p.length<=20)(h: ∀x∈p,MG x):BZ (DM p)=(p,0,0):=by
 cases p with
 |nil=>rfl
 |cons x p=>
  have hx:=h x (.head _)
  have e:DM (x::p)=BR (x::p):=by
   unfold DM BR
   rw[if_neg (by rintro(h|h);cases h;have h:x.part=true:=h;rw[hx.1]at h;cases h)];rfl
  have b:DM (x::p)≠[46]:=by
   rw[e];unfold BR
   rw[List.map_cons,List.flatten_cons,hx.CM]
   intro i
   have:=(List.cons.inj i).2
   exact uW hx.2.2 (List.append_eq_nil_iff.1 this).1
  have hg:=uV (x::p) [] [] 20 h hl
  rw[List.nil_append,List.nil_append,len_nil,<-e]at hg
  unfold BZ
  rw[if_neg b,hg,if_neg (by rintro(h|h);(have h:len (DM (x::p))<len (DM (x::p)):=h;omega);cases h)]
theorem uX{x:Tf}(e:M5 x=true)(ho:x.t.op=7\/x.t.op=8):H9 x.t.s=((HR x.t.s).1,true):=by
 obtain⟨p,p1,p2,p3,p4,p5⟩:=Av0 e ho
 have h: ∀y∈p,MG y:=λ y b=>⟨p5 y b,(p2 y b).2 (p5 y b)⟩
 have h1:BZ x.t.s=(p,0,0):=by rw[p3];exact Aw2 p1 h
 have i:p.any (λ x=>x.part)=false:=by
  rw[List.any_eq_false];intro y b;rw[p5 y b];decide
 unfold H9 HR
 rw[h1,p4]
 show(p,decide ((0:Int)=0)&& !p.any (λ x=>x.part))=_
 rw[i];rfl
theorem uY{o:Int}: ∀ {l:List Tf} {L:Option A0},EO o L l=true->(∀y∈l,CX y=true)->FC o l=true
 |[],L,_,_=>by rw[FC]
 |x::l,L,h,hw=>by
  rw[EO]at h
  simp only[Bool.and_eq_true]at h
  obtain⟨⟨⟨h1,i⟩,e⟩,b⟩:=h
  have j:Lib.validD x.t.name=true:=by
   by_cases ho:o=2
   ·rw[ho]at e
    simp only[decide_true,Bool.not_true,Bool.false_or,Bool.and_eq_true]at e
    exact uS e.1
   ·have:x.t.name=[]:=by simpa[ho]using i
    rw[this];rfl
  have k:QA o x.t.name l=true:=by
   cases l with
   |nil=>rfl
   |cons y l=>
    unfold QA
    by_cases ho:o=2
    ·rw[ho]at b ⊢
     rw[EO]at b
     simp only[Bool.and_eq_true,decide_true,Bool.not_true,Bool.false_or,Option.all_some,Bool.not_eq_true',decide_eq_false_iff_not]at b
     have:=b.1.2.2
     simp[this]
    ·simp[ho]
  rw[FC,h1,i,j,hw x (.head _),k,uY b λ y n=>hw y (.tail _ n)];rfl
theorem i1: ∀(n:Nat) (x:Tf),x.size<=n->M5 x=true->CX x=true
 |0,x,h,_=>by have:=x.size_pos;omega
 |n+1,x,h,e=>by
  obtain⟨j,a2,a3,a4⟩:=uR e
  have hs:=Tf.size_eq x
  have hw: ∀y∈x.ps,CX y=true:=λ y i=>i1 n y (by have:=I8 i;omega) (uQ a4 y i)
  have h1:HQ { x.t with many:=len x.ps}=true:=Av9 (λ ho=>by
   have ho:x.t.op=7\/x.t.op=8:=ho
   show(H9 x.t.s).2=true
   rw[uX e ho]) j
  have k:Q9 x.t x.ps=true:=by
   have key: ∀q,OK x.t q=true->Q9 x.t q=true:=by
    intro q b
    by_cases ho:x.t.op=7\/x.t.op=8
    ·match q,b with
     |[],b=>
      have b:(if x.t.op=7\/x.t.op=8 then false else true)=true:=b
      rw[if_pos ho]at b;cases b
     |[y],b=>
      have b:(if x.t.op=7\/x.t.op=8 then QE (HR x.t.s).1 y else true)=true:=b
      show(if x.t.op=7\/x.t.op=8 then(B1 (H9 x.t.s).1 y).2 else true)=true
      rw[if_pos ho]at b ⊢
      rw[uX e ho,hY,<-Av4];exact b
     |y::z::r,b=>
      have b:(if x.t.op=7\/x.t.op=8 then false else true)=true:=b
      rw[if_pos ho]at b;cases b
    ·unfold Q9
     split
     ·rw[if_neg ho]
     ·rw[if_neg ho]
   exact key _ a3
  rw[fO,h1,uY a2 hw,k];rfl
end Go.Eng
