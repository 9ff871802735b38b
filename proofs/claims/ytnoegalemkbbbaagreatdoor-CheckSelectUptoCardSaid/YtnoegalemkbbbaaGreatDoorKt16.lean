/- Lemmas for the card. -/
import Derived.Test.YtnoegalemkbbbaaGreatDoorKt15
set_option linter.unusedVariables false
set_option linter.unusedSimpArgs false
set_option maxRecDepth 100000
set_option maxRecDepth 100000
namespace Go.Eng
open Go.RowKit
section pv
variable {P:Program} {C:World->Prop} {L:Env} {W:Bool} {d:Option Tmp} {ty:TypeId} {ps:String} {af:Array Edge} {gd:Option (Nat×Bool)}
theorem PV.min2 {ts:Array TypeId}{x y:Operand}{k k':IntKind}{a b:Int}(hx:AD L W x (.int k a))(i:AD L W y (.int k' b)):PV P C L W ⟨d,.call ⟨.builtin .min,#[x,y],ts⟩,ty,ps,af,gd⟩ (.int k (if b<a then b else a)):=by
 intro ac N e h w _
 have:=run_min_int2 (P:=P) (w:=w) ts ty k k' a b
 simp only[execOp,resolve,invoke,builtin,List.map_toArray,List.map_cons,List.map_nil,hx ac N e h,i ac N e h,Sem.run_bind,Sem.run_pure,Result.andThen_ok,this]
end pv
def QZ(n:Nd)(p:Int):Int:=if len n.s-1-(p-n.e)<0\/len n.s<=len n.s-1-(p-n.e)then 0 else A4 n.s (len n.s-1-(p-n.e))-48
def NV(a b:Nd)(sd:Int):Nat->Int->Int
 |0,_=>0
 |f+1,p=>if QZ a p<QZ b p then-sd else if QZ b p<QZ a p then sd else NV a b sd f (p-1)
def LR(a:Nd):Int:=if a.neg=true then-1 else 1
def K9(a b:Nd):Int:=if len b.s+b.e>len a.s+a.e then len b.s+b.e else len a.s+a.e
def NW(a b:Nd):Int:=if b.e<a.e then b.e else a.e
def KA(a b:Nd):Int:=if a.neg≠b.neg then LR a else NV a b (LR a) (K9 a b-NW a b+1).toNat (K9 a b)
theorem uB(a b:Nd)(x y:A0)(e:Int): ∀(f:Nat) (p:Int),NV { a with name:=x} { b with name:=y} e f p=NV a b e f p
 |0,_=>rfl
 |f+1,p=>by rw[NV,NV,uB a b x y e f];rfl
theorem VW(a b:Nd)(x y:A0):KA { a with name:=x} { b with name:=y}=KA a b:=by
 unfold KA;rw[uB];rfl
def J5(less same:Bool):Int:=if same=true then 0 else if less=true then-1 else 1
def IL(a b:Nd):Int:=if a.kind≠b.kind then J5 (decide (a.kind<b.kind)) false else if a.kind=3 then KA a b else if a.kind=4 then J5 (Op.bytesLess a.s b.s) (a.s==b.s)else 0
def NX(a:Tm)(x:Nd):Bool:=F4 a.n (IL x a.c)
def P8(c:Nd):Bool:=decide (c.kind<5)&&(decide (c.name=[])&&decide (c.many=0)&&DT c)
def MV(mask:Int)(l:List Tm)(x:Nd):Bool:=P8 x&&J2 mask x.kind.toNat&&l.all λ a=>NX a x
structure IM (a:Nd):Prop where
 b:P7 a
 f:a.kind=3->GW a.s
theorem Ao4{x:Nd}(h:DT x=true):0<=x.kind/\x.kind<=6:=by
 unfold DT at h
 repeat' split at h
 all_goals first|omega|(cases h)
end Go.Eng
namespace Go.Proofs.YtnoegalemkbbbaaGreatDoor
open Go.Proofs.Tryz
open Go.Eng
theorem uC(n:Nd)(p:Int)(w:World)(j:J4 n)(k:GW n.s)(hp: -4194304<=p/\p<=4194304):Calls prog 162 [EH n,i64 p].toArray w λ e w'=>e= .returned (i64 (QZ n p))/\Ext w w':=by
 have l:=A6 n.s
 obtain⟨q,y,z⟩:=j
 refine AE A8 func162 U ntmps162 [] [] [CU n,I p] U (BB w) A3 (λ B h=>BO 2 U U U λ C=>?_) U
 refine A1 U (λ h1=>?_) (λ h1=>?_)<;>simp only[zb]at h1
 ·exact A2 h U U U λ w M b=>⟨by unfold QZ;rw[if_pos Aa];rfl,b.st.low⟩
 have A:=k.at (i:=len n.s-1-(p-n.e)) Aa Aa
 exact A2 h U U U λ w M b=>⟨by unfold QZ;rw[if_neg Aa];rfl,b.st.low⟩
theorem iE(a b:Nd)(w:World)(P:J4 a)(Q:J4 b)(n:GW a.s)(y:GW b.s):
    Calls prog 128 [EH a,EH b].toArray w λ e w'=>e= .returned (i64 (KA a b))/\Ext w w':=by
 have R:=A6 a.s
 have S:=A6 b.s
 obtain⟨z,A,C⟩:=P
 obtain⟨D,F,G⟩:=Q
 refine AE A8 func128 U ntmps128 [] [] [CU a,CU b] U (BB w) A3 (λ B j=>BO 2 U U U λ k=>BO 3 U U U λ l=>CZ 0 (λ s=>s=⟨[],[(2,ER k a),(3,ER l b)],[Z 2 (.bx 2 k 0),Z 3 (.bx 3 l 0),Z 4 (I 0),Z 5 (I (LR a))]⟩) U U (λ h1=>?_) (λ h1=>?_) ?_) U
 ·exact AQ _ U U (by unfold LR;rw[if_pos h1])
 ·exact AQ _ U U (by unfold LR;rw[if_neg (by rw[h1];decide)])
 rintro _ rfl
 have T:LR a=1\/LR a= -1:=by unfold LR;split<;>simp
 refine A1 U (λ h1=>?_) (λ h1=>?_)
 ·exact A2 j U U U λ w M h=>⟨by unfold KA;rw[if_pos (by simpa using h1)];rfl,h.st.low⟩
 have H: ¬(a.neg≠b.neg):=by simpa using h1
 have V: -1048576<=K9 a b/\K9 a b<=2097152:=by unfold K9;split<;>omega
 have W: -1048576<=NW a b/\NW a b<=1048576/\NW a b<=K9 a b:=by unfold NW K9;split<;>split<;>omega
 have J:KA a b=NV a b (LR a) (K9 a b-NW a b+1).toNat (K9 a b):=by unfold KA;rw[if_neg H]
 refine AU (I (K9 a b)) U U (λ w M h=>PV.max2 (AF (v:=I (len a.s+a.e)) (E:=[]) U) (AF (v:=I (len b.s+b.e)) (E:=[]) U)) <|AT (σ:=Nat×Int) (λ(f,p)=>⟨[],[(2,ER k a),(3,ER l b)],[Z 2 (.bx 2 k 0),Z 3 (.bx 3 l 0),Z 4 (I 0),Z 5 (I (LR a)),Z 7 (I p)]⟩) (λ(f,p)=>(f:Int)=p-NW a b+1/\p<=K9 a b/\KA a b=NV a b (LR a) f p) (λ(f,p)=>f) ((K9 a b-NW a b+1).toNat,K9 a b) U U ⟨Aa,Aa,J⟩ ?_
 rintro⟨f,p⟩ ⟨hf,X,i⟩
 refine AU (I (NW a b)) U U (λ w M h=>PV.min2 (AF (v:=I a.e) (E:=[]) U) (AF (v:=I b.e) (E:=[]) U)) ?_
 refine A1 U (λ O=>?_) (λ O=>?_)<;>simp only[zb]at O
 ·obtain⟨f,rfl⟩: ∃q,f=q+1:=⟨f-1,Aa⟩
  refine DQ U BI Ac <|EZ U call162 U U (λ _ w M h=>uC a p w ⟨z,A,C⟩ n Aa) U <|EZ U call162 U U (λ _ w M h=>uC b p w ⟨D,F,G⟩ y Aa) U <|DR U ?_
  rw[NV]at i
  refine A1 U (λ K=>?_) (λ K=>?_)<;>simp only[zb]at K
  ·exact A2 j U U U λ w M h=>⟨by rw[i,if_pos K];rfl,h.st.low⟩
  refine A1 U (λ L=>?_) (λ L=>?_)<;>simp only[zb]at L
  ·exact A2 j U U U λ w M h=>⟨by rw[i,if_neg Aa,if_pos L];rfl,h.st.low⟩
  exact AR (f,p-1) U U ⟨Aa,Aa,by rw[i,if_neg Aa,if_neg Aa]⟩ (by show f<f+1;omega)
 ·have N:f=0:=by omega
  subst N
  exact A2 j U U U λ w M h=>⟨by rw[i];rfl,h.st.low⟩
theorem R0(x y:Bool)(w:World):Calls prog 127 [.bool x,.bool y].toArray w λ e w'=>e= .returned (i64 (J5 x y))/\Ext w w':=by
 refine AE A8 func127 U ntmps127 [] [] [.v (.bool x),.v (.bool y)] U (BB w) A3 (λ B h=>A1 U (λ h1=>?_) (λ h1=>?_)) U
 ·exact A2 h U U U λ w M b=>⟨by unfold J5;rw[if_pos h1];rfl,b.st.low⟩
 refine A1 U (λ i=>?_) (λ i=>?_)
 ·exact A2 h U U U λ w M b=>⟨by unfold J5;rw[if_neg (by rw[h1];decide),if_pos i];rfl,b.st.low⟩
 exact A2 h U U U λ w M b=>⟨by unfold J5;rw[if_neg (by rw[h1];decide),if_neg (by rw[i];decide)];rfl,b.st.low⟩
theorem uD(a b:Nd)(v u:Value)(w:World)(M:Mem)(D:Sat w M)(E:(kn v 6 [a] Nd.cells).ok M)(hu:(kn u 6 [b] Nd.cells).ok M)(q:IM a)(y:IM b)(L:a.kind<5):
    Calls prog 71 [v,u].toArray w λ e w'=>e= .returned (i64 (IL a b))/\Ext w w':=by
 refine AE (Hr:=[]) A8 func71 U ntmps71 [(0,kn v 6 [a] Nd.cells),(1,kn u 6 [b] Nd.cells)] [] [.sl 0 v,.sl 1 u] U (Aj D) (AA E (AA hu A3)) (λ B l=>?_) U
 have F:len [a]=1:=rfl
 have G:len [b]=1:=rfl
 have j:at' [a] 0=a:=rfl
 have z:at' [b] 0=b:=rfl
 refine DQ U BI Ac <|DR U ?_
 refine A1 U (λ h1=>?_) (λ h1=>?_)<;>simp only[zb]at h1<;>rw[j,z]at h1
 ·exact AB U call127 U U (λ _ w M i=>R0 (decide (a.kind<b.kind)) false w) U <|A2 l U U U λ w M i=>⟨by unfold IL;rw[if_pos h1];rfl,i.st.low⟩
 have H:a.kind=b.kind:=by omega
 refine A1 U (λ k=>?_) (λ k=>?_)<;>simp only[zb]at k<;>rw[j]at k
 ·refine EJ [6,7,8,9] 5 (λ _ _ _ _ _ h=>h) U BI Ac <|H3 6 7 U U U ?_ ?_
  ·exact AZ 7 U zeroValue46 U λ J=>AI U <|AL 7 U U U <|AZ 8 U zeroValue46 U λ K=>AI U <|AL 8 U U U <|AI U <|AL 9 U U U <|AI U <|BV U U U <|AB U call128 U U (λ _ w M i=>iE { a with name:=[]} { b with name:=[]} w q.b y.b (q.f k) (y.f Aa)) U <|A2 l U U U λ w M i=>⟨by unfold IL;rw[if_neg Aa,if_pos k,<-VW a b [] []];rfl,i.st.low⟩
  ·exact AZ 8 U zeroValue46 U λ K=>AI U <|AL 6 U U U <|AZ 7 U zeroValue46 U λ J=>AI U <|AL 8 U U U <|AI U <|AL 9 U U U <|AI U <|BV U U U <|AB U call128 U U (λ _ w M i=>iE { a with name:=[]} { b with name:=[]} w q.b y.b (q.f k) (y.f Aa)) U <|A2 l U U U λ w M i=>⟨by unfold IL;rw[if_neg Aa,if_pos k,<-VW a b [] []];rfl,i.st.low⟩
 refine A1 U (λ n=>?_) (λ n=>?_)<;>simp only[zb]at n<;>rw[j]at n
 ·exact DQ U BI Ac <|EZ U call127 U U (λ _ w M i=>R0 (Op.bytesLess a.s b.s) (a.s==b.s) w) U <|DR U <|A2 l U U U λ w M i=>⟨by unfold IL;rw[if_neg Aa,if_neg k,if_pos n];rfl,i.st.low⟩
 refine A1 U (λ A=>?_) (λ A=>?_)<;>simp only[zb]at A<;>rw[j]at A
 ·omega
 refine A1 U (λ C=>?_) (λ C=>?_)<;>simp only[zb]at C<;>rw[j]at C
 ·omega
 exact A2 l U U U λ w M i=>⟨by unfold IL;rw[if_neg Aa,if_neg k,if_neg n];rfl,i.st.low⟩
theorem iF(n x:Int)(w:World):Calls prog 70 [i64 n,i64 x].toArray w λ e w'=>e= .returned (.bool (F4 n x))/\Ext w w':=by
 refine AE A8 func70 U ntmps70 [] [] [I n,I x] U (BB w) A3 (λ B i=>?_) U
 refine A1 U (λ h1=>?_) (λ h1=>?_)<;>simp only[zb]at h1
 ·exact A2 i U U U λ w M b=>⟨by unfold F4;rw[if_pos h1];rfl,b.st.low⟩
 refine A1 U (λ h=>?_) (λ h=>?_)<;>simp only[zb]at h
 ·exact A2 i U U U λ w M b=>⟨by unfold F4;rw[if_neg h1,if_pos h];rw[<-tJ];rfl,b.st.low⟩
 refine A1 U (λ j=>?_) (λ j=>?_)<;>simp only[zb]at j
 ·exact A2 i U U U λ w M b=>⟨by unfold F4;rw[if_neg h1,if_neg h,if_pos j];rfl,b.st.low⟩
 refine A1 U (λ k=>?_) (λ k=>?_)<;>simp only[zb]at k
 ·exact A2 i U U U λ w M b=>⟨by unfold F4;rw[if_neg h1,if_neg h,if_neg j,if_pos k];rfl,b.st.low⟩
 refine A1 U (λ l=>?_) (λ l=>?_)<;>simp only[zb]at l
 ·exact A2 i U U U λ w M b=>⟨by unfold F4;rw[if_neg h1,if_neg h,if_neg j,if_neg k,if_pos l];rfl,b.st.low⟩
 exact A2 i U U U λ w M b=>⟨by unfold F4;rw[if_neg h1,if_neg h,if_neg j,if_neg k,if_neg l];rfl,b.st.low⟩
theorem Ao5(a:Tm)(x:Nd)(w:World)(M:Mem)(s:Sat w M)(j:IM a.c)(hx:IM x)(l:x.kind<5):
   Calls prog 101 [VQ a,EH x].toArray w λ e w'=>e= .returned (.bool (NX a x))/\Ext w w':=by
 refine AE (Hr:=[]) A8 func101 U ntmps101 [] [] [hZ a,CU x] U (Aj s) A3 (λ B q=>BO 2 U U U λ y=>BO 3 U U U λ z=>EJ [3,6,7,8,9] 6 (λ _ _ _ _ _ h=>h) U BI Ac <|H3 3 6 U U U ?_ ?_) U
 ·exact B9 8 [x] Nd.cells 6 46 Nd.AO U U Ah U λ i=>AI U <|AL 6 U U U <|B9 11 [a.c] Nd.cells 6 46 Nd.AO U U Ah U λ v11=>AI U <|AL 7 U U U <|AB U call71 U U (λ _ w M b=>uD x a.c i v11 w M b.st.sat (b.f.get (k:=8) U) (b.f.get (k:=11) U) hx j l) U <|AI U <|AL 8 U U U <|AB U call70 U U (λ _ w M b=>iF a.n (IL x a.c) w) U <|AI U <|AL 9 U U U <|AI U <|BV U U U <|A2 q U U U λ w M b=>⟨rfl,b.st.low⟩
 ·exact B9 11 [a.c] Nd.cells 6 46 Nd.AO U U Ah U λ v11=>AI U <|AL 3 U U U <|B9 8 [x] Nd.cells 6 46 Nd.AO U U Ah U λ i=>AI U <|AL 7 U U U <|AB U call71 U U (λ _ w M b=>uD x a.c i v11 w M b.st.sat (b.f.get (k:=8) U) (b.f.get (k:=11) U) hx j l) U <|AI U <|AL 8 U U U <|AB U call70 U U (λ _ w M b=>iF a.n (IL x a.c) w) U <|AI U <|AL 9 U U U <|AI U <|BV U U U <|A2 q U U U λ w M b=>⟨rfl,b.st.low⟩
theorem uE(mask:Int)(v:Value)(l:List Tm)(x:Nd)(w:World)(M:Mem)(H:Sat w M)(hl:(kn v 7 l BP).ok M)(L:len l<=1099511627776)(J: ∀a∈l,IM a.c)(hx:IM x)(hm:0<=mask/\mask<=31):
    Calls prog 42 [i64 mask,v,EH x].toArray w λ e w'=>e= .returned (.bool (MV mask l x))/\Ext w w':=by
 have K:=A6 l
 refine AE (Hr:=[]) A8 func42 U ntmps42 [(1,kn v 7 l BP)] [] [I mask,.sl 1 v,CU x] U (Aj H) (AA hl A3) (λ B C=>BO 5 U U U λ b=>AB U call99 U U (λ _ w M j=>sY x w M j.st.sat hx.b.1) U <|F9 (.v (.bool false)) U U (λ D=>?_) (λ D=>?_)) U
 ·have n:P8 x=true:=by unfold P8;simpa using D
  have G:x.kind<5/\(DT x=true):=by unfold P8 at n;simp only[Bool.and_eq_true,decide_eq_true_eq]at n;exact⟨n.1,n.2.2⟩
  have N:=Ao4 G.2
  have E:x.kind=((x.kind.toNat:Nat):Int):=by omega
  have A:MV mask l x=(J2 mask x.kind.toNat&&l.all λ a=>NX a x):=by unfold MV;rw[n,Bool.true_and]
  refine AB U call100 U U (hE2:=SX D (by simp)) (λ _ w M j=>by show Calls prog 100 [i64 mask,i64 x.kind].toArray w _;rw[E];exact Ak8 mask x.kind.toNat w hm.1 Aa Aa) U <|A1 U (λ h=>?_) (λ h=>?_)
  ·have F:J2 mask x.kind.toNat=false:=by
    cases hq:J2 mask x.kind.toNat with
    |false=>rfl
    |true=>unfold P8 at n;rw[hq,n]at h;simp at h
   exact A2 C U U U λ w M j=>⟨by rw[A,F];rfl,j.st.low⟩
  have F:J2 mask x.kind.toNat=true:=by
   cases hq:J2 mask x.kind.toNat with
   |true=>rfl
   |false=>rw[hq]at h;simp at h
  refine AT (σ:=Int) (λ k=>⟨[(1,kn v 7 l BP)],[(5,ER b x)],[Z 1 (.sl 1 v),Z 5 (.bx 5 b 0),Z 7 (I k)]⟩) (λ k=>0<=k/\k<=len l/\ ∀a∈Eng.sub l 0 k,NX a x=true) (λ k=>(len l-k).toNat) 0 rfl rfl ⟨Aa,Aa,λ x hx=>by cases hx⟩ ?_
  intro k ⟨h0,h1,s⟩
  refine A1 U (λ y=>?_) (λ y=>?_)<;>simp only[zb]at y
  ·refine DQ U BI Ac <|EZ U call101 U U (λ _ w M j=>Ao5 (at' l k) x w M j.st.sat (J _ (at_mem h0 y)) hx G.1) U <|DR U <|A1 U (λ z=>?_) (λ z=>?_)
   ·refine A2 C U U U λ w M j=>⟨?_,j.st.low⟩
    have e:(l.all λ a=>NX a x)=false:=by
     rw[<-Bool.not_eq_true,List.all_eq_true]
     intro q
     have:=q _ (at_mem h0 y)
     rw[this]at z;cases z
    rw[A,e,Bool.and_false];rfl
   ·exact AR (k+1) U U ⟨Aa,Aa,λ a i=>by
     rw[HQ h0 y]at i
     rcases List.mem_append.1 i with i|i
     ·exact s a i
     ·rw[List.mem_singleton.1 i];simpa using z⟩ Ag
  ·rw[ID Aa]at s
   exact A2 C U U U λ w M j=>⟨by rw[A,F,List.all_eq_true.2 s];rfl,j.st.low⟩
 ·have n:P8 x=false:=by unfold P8;simpa using D
  refine A1 U (λ h=>?_) (λ h=>?_)
  ·exact A2 C U U U λ w M j=>⟨by unfold MV;rw[n];rfl,j.st.low⟩
  ·exfalso
   unfold P8 at n
   rw[n]at h;simp at h
end Go.Proofs.YtnoegalemkbbbaaGreatDoor
namespace Go.Eng
def KZ:List A0->List A0->Int
 |[],l=>J5 (decide (0<len l)) (decide (0=len l))
 |_::_,[]=>1
 |a::p,b::bs=>if a≠b then J5 (Op.bytesLess a b) false else KZ p bs
mutual
def F5:Tr->Tr->Int
 | .mk n ps,b=>if n.kind≠b.node.kind then J5 (decide (n.kind<b.node.kind)) false else if n.kind=3 then KA n b.node else if n.kind=4 then J5 (Op.bytesLess n.s b.node.s) (n.s==b.node.s)else if n.kind=5 then FG ps b.parts else if n.kind=6 then(if KZ (ps.map (·.node.name)) (b.parts.map (·.node.name))≠0 then KZ (ps.map (·.node.name)) (b.parts.map (·.node.name))else FG ps b.parts)else 0
def FG:List Tr->List Tr->Int
 |[],l=>J5 (decide (0<len l)) (decide (0=len l))
 |_::_,[]=>1
 |a::p,b::bs=>if F5 a b≠0 then F5 a b else FG p bs
end
theorem Ao6(x:A0)(a b:Tr):F5 (a.named x) b=F5 a b:=by
 obtain⟨n,ps⟩:=a
 show F5 (.mk { n with name:=x} ps) b=_
 rw[F5,F5]
 have:=VW n b.node x b.node.name
 rw[show({ b.node with name:=b.node.name}:Nd)=b.node from rfl]at this
 rw[this]
theorem Ao7(x:A0)(a b:Tr):F5 a (b.named x)=F5 a b:=by
 obtain⟨n,ps⟩:=a
 obtain⟨m,e⟩:=b
 rw[F5,F5]
 have:=VW n m n.name x
 rw[show({ n with name:=n.name}:Nd)=n from rfl]at this
 show(if n.kind≠m.kind then _ else if n.kind=3 then KA n { m with name:=x}else _)=_
 rw[this];rfl
def AP(l:List Tr):List Tr:=l.map (·.named [])
theorem uF: ∀(a b:List Tr),FG (AP a) (AP b)=FG a b
 |[],b=>by show FG [] (AP b)=_;rw[FG,FG];unfold AP len;rw[List.length_map]
 |_::_,[]=>by show FG (_::_) []=_;rw[FG,FG]
 |a::p,b::bs=>by
  show FG (a.named []::AP p) (b.named []::AP bs)=_
  rw[FG,FG,Ao6,Ao7,uF p bs]
theorem LU(t:Tr):JO t=(AP t.parts).map Tr.flat:=by unfold JO AP;rw[List.map_map];rfl
theorem IN{α:Type}[Inhabited α]{l:List α}{k:Int}(h0:0<=k)(h1:k<len l):l.drop k.toNat=at' l k::l.drop (k+1).toNat:=by
 obtain⟨q,rfl⟩: ∃q:Nat,k=q:=⟨k.toNat,Aa⟩
 rw[show((q:Int)+1).toNat=q+1 by omega]
 have b:q<l.length:=by unfold len at h1;omega
 unfold at'
 rw[show((q:Int).toNat)=q by omega,List.drop_eq_getElem_cons b,List.getD_eq_getElem?_getD,List.getElem?_eq_getElem b];rfl
theorem KB{α:Type}{l:List α}{k:Int}(h:len l<=k):l.drop k.toNat=[]:=List.drop_eq_nil_of_le (by unfold len at h;omega)
theorem J6{α β:Type}[Inhabited α][Inhabited β]{f:α->β}{l:List α}{k:Int}(h0:0<=k)(h1:k<len l):at' (l.map f) k=f (at' l k):=by
 have b:k.toNat<l.length:=by unfold len at h1;omega
 unfold at'
 rw[List.getD_eq_getElem?_getD,List.getD_eq_getElem?_getD,List.getElem?_map,List.getElem?_eq_getElem b];rfl
theorem Ao8{a b:List A0}(h:a=[]\/b=[]):KZ a b=J5 (decide (len a<len b)) (decide (len a=len b)):=by
 cases a with
 |nil=>rw[KZ];rfl
 |cons x a=>
  obtain rfl:b=[]:=by simpa using h
  rw[KZ]
  have:=A6 a
  rw[decide_eq_false (by rw[AH,len_nil];omega),decide_eq_false (by rw[AH,len_nil];omega)];rfl
theorem Ao9{a b:List Tr}(h:a=[]\/b=[]):FG a b=J5 (decide (len a<len b)) (decide (len a=len b)):=by
 cases a with
 |nil=>rw[FG];rfl
 |cons x a=>
  obtain rfl:b=[]:=by simpa using h
  rw[FG]
  have:=A6 a
  rw[decide_eq_false (by rw[AH,len_nil];omega),decide_eq_false (by rw[AH,len_nil];omega)];rfl
theorem T6{α:Type}{l:List α}{k:Int}(h0:0<=k)(h1:k<=len l):len (l.drop k.toNat)=len l-k:=by unfold len at*;rw[List.length_drop];omega
instance:Inhabited Tr:=⟨.mk default []⟩
end Go.Eng
namespace Go.Proofs.YtnoegalemkbbbaaGreatDoor
open Go.Proofs.Tryz
open Go.Eng
theorem Ap0(a b:List A0)(v u:Value)(w:World)(M:Mem)(A:Sat w M)(C:(kn v 1 a CO).ok M)(hu:(kn u 1 b CO).ok M)(G:len a<=1048576)(H:len b<=1048576):
    Calls prog 130 [v,u].toArray w λ e w'=>e= .returned (i64 (KZ a b))/\Ext w w':=by
 have D:=A6 a
 have E:=A6 b
 refine AE (Hr:=[]) A8 func130 U ntmps130 [(0,kn v 1 a CO),(1,kn u 1 b CO)] [] [.sl 0 v,.sl 1 u] U (Aj A) (AA C (AA hu A3)) (λ B z=>AT (σ:=Int) (λ k=>⟨[(0,kn v 1 a CO),(1,kn u 1 b CO)],[],[Z 0 (.sl 0 v),Z 1 (.sl 1 u),Z 5 (I k)]⟩) (λ k=>0<=k/\k<=len a/\k<=len b/\KZ (a.drop k.toNat) (b.drop k.toNat)=KZ a b) (λ k=>(len a-k).toNat) 0 U U ⟨Aa,Aa,Aa,rfl⟩ ?_) U
 rintro k ⟨i,s,y,j⟩
 refine A1 U (λ h1=>?_) (λ h1=>?_)<;>simp only[zb]at h1
 ·rw[IN i Aa,IN (l:=b) i Aa,KZ]at j
  refine DQ U BI Ac (DR U ?_)
  refine A1 U (λ q=>?_) (λ q=>?_)<;>simp only[zb]at q
  ·exact DQ U BI Ac <|EZ U call127 U U (λ _ w M n=>R0 (Op.bytesLess (at' a k) (at' b k)) false w) U <|DR U <|A2 z U U U λ w M n=>⟨by rw[<-j,if_pos q];rfl,n.st.low⟩
  ·rw[if_neg (by simpa using q)]at j
   exact AR (k+1) U U ⟨Aa,Aa,Aa,j⟩ Ag
 ·refine AB U call127 U U (λ _ w M n=>R0 (decide (len a<len b)) (decide (len a=len b)) w) U <|A2 z U U U λ w M n=>⟨?_,n.st.low⟩
  have F:a.drop k.toNat=[]\/b.drop k.toNat=[]:=by
   by_cases h:len a<=k
   · exact .inl (KB h)
   · exact .inr (KB Aa)
  rw[Ao8 F,T6 i s,T6 i y]at j
  rw[show decide (len a-k<len b-k)=decide (len a<len b) by rw[decide_eq_decide];omega,show decide (len a-k=len b-k)=decide (len a=len b) by rw[decide_eq_decide];omega]at j
  rw[<-j];rfl
abbrev iG(a b:Tr):Prop:= ∀(v u:Value) (w:World) (M:Mem),Sat w M->(kn v 6 a.flat Nd.cells).ok M->(kn u 6 b.flat Nd.cells).ok M->Calls prog 71 [v,u].toArray w λ e w'=>e= .returned (i64 (F5 a b))/\Ext w w'
theorem Ap1(a b:List Tr)(G: ∀x∈a,∀y∈b,iG x y)(v u:Value)(j gs:List AJ)(w:World)(M:Mem)(H:Sat w M)(D:(CN v j (a.map Tr.flat)).ok M)(hu:(CN u gs (b.map Tr.flat)).ok M)(O:len a<=1048576)(P:len b<=1048576):
    Calls prog 129 [v,u].toArray w λ e w'=>e= .returned (i64 (FG a b))/\Ext w w':=by
 have J:=A6 a
 have K:=A6 b
 have L:len j=len a:=by have:=CB.len (f:=Nd.cells) D.more;unfold len;rw[List.length_map]at this;omega
 have N:len gs=len b:=by have:=CB.len (f:=Nd.cells) hu.more;unfold len;rw[List.length_map]at this;omega
 refine AE (Hr:=[]) A8 func129 U ntmps129 [(0,CN v j (a.map Tr.flat)),(1,CN u gs (b.map Tr.flat))] [] [.sl 0 v,.sl 1 u] U (Aj H) (AA D (AA hu A3)) (λ B E=>AT (σ:=Int) (λ k=>⟨[(0,CN v j (a.map Tr.flat)),(1,CN u gs (b.map Tr.flat))],[],[Z 0 (.sl 0 v),Z 1 (.sl 1 u),Z 5 (I k)]⟩) (λ k=>0<=k/\k<=len a/\k<=len b/\FG (a.drop k.toNat) (b.drop k.toNat)=FG a b) (λ k=>(len a-k).toNat) 0 U U ⟨Aa,Aa,Aa,rfl⟩ ?_) U
 rintro k ⟨i,A,C,q⟩
 refine A1 U (λ h1=>?_) (λ h1=>?_)<;>simp only[zb]at h1
 ·rw[IN i Aa,IN (l:=b) i Aa,FG]at q
  refine DQ U BI Ac ?_
  refine EZ U call71 U U (λ _ w M n=>by
    have s:=I1 (n.f.get (k:=0) U) i Aa
    have F:=I1 (n.f.get (k:=1) U) i Aa
    rw[J6 i Aa]at s F
    exact G _ (at_mem i Aa) _ (at_mem i Aa) _ _ w M n.st.sat s F) U ?_
  refine DR U ?_
  refine A1 U (λ z=>?_) (λ z=>?_)<;>simp only[zb]at z
  ·exact A2 E U U U λ w M n=>⟨by rw[<-q,if_pos z];rfl,n.st.low⟩
  ·rw[if_neg (by simpa using z)]at q
   exact AR (k+1) U U ⟨Aa,Aa,Aa,q⟩ Ag
 ·refine AB U call127 U U (λ _ w M n=>R0 (decide (len j<len gs)) (decide (len j=len gs)) w) U <|A2 E U U U λ w M n=>⟨?_,n.st.low⟩
  have s:a.drop k.toNat=[]\/b.drop k.toNat=[]:=by
   by_cases h:len a<=k
   · exact .inl (KB h)
   · exact .inr (KB Aa)
  rw[Ao9 s,T6 i A,T6 i C]at q
  rw[show decide (len a-k<len b-k)=decide (len j<len gs) by rw[decide_eq_decide];omega,show decide (len a-k=len b-k)=decide (len j=len gs) by rw[decide_eq_decide];omega]at q
  rw[<-q];rfl
end Go.Proofs.YtnoegalemkbbbaaGreatDoor
namespace Go.Eng
abbrev LV(a:Tr):Prop:= ∀m∈a.flat,IM m
theorem uG{u:Tr}{m:Nd}: ∀ {l:List Tr},u∈l->m∈u.flat->m∈F1 l
 |t::l,h,hm=>by
  rw[F1]
  rcases List.mem_cons.1 h with rfl|h
  ·exact List.mem_append.2 (.inl hm)
  ·exact List.mem_append.2 (.inr (uG h hm))
theorem LV.HV {a u:Tr}(h:LV a)(hu:u∈a.parts):LV u:=λ m hm=>h m (by
 obtain⟨n,ps⟩:=a
 rw[Tr.flat];exact List.mem_cons_of_mem _ (uG hu hm))
theorem LV.named {a:Tr}(h:LV a)(x:A0):LV (a.named x):=λ m hm=>by
 obtain⟨n,ps⟩:=a
 have h1:=h n (by rw[Tr.flat];exact .head _)
 rcases List.mem_cons.1 (show m∈ { n with name:=x}::F1 ps from hm)with rfl|hm
 ·exact⟨h1.b,h1.f⟩
 ·exact h m (by rw[Tr.flat];exact List.mem_cons_of_mem _ hm)
theorem ZD{u:Tr}: ∀ {l:List Tr},EW l->u∈l->u.wf
 |t::l,h,hu=>by
  rw[EW]at h
  rcases List.mem_cons.1 hu with rfl|hu
  ·exact h.1
  ·exact ZD h.2 hu
theorem iH{y:Tr}{l:List Tr}(h:y∈AP l): ∃u∈l,y=u.named []:=by
 obtain⟨u,hu,rfl⟩:=List.mem_map.1 h
 exact⟨u,hu,rfl⟩
theorem LV.node {a:Tr}(h:LV a):IM a.node:=h _ (by cases a;rw[Tr.flat];exact .head _)
theorem FQ(t:Tr):len t.flat=t.size:=by unfold len;rw[Tr.BR]
theorem uH(a b:Tr):F5 a b=(if a.node.kind≠b.node.kind then J5 (decide (a.node.kind<b.node.kind)) false else if a.node.kind=3 then KA a.node b.node else if a.node.kind=4 then J5 (Op.bytesLess a.node.s b.node.s) (a.node.s==b.node.s)else if a.node.kind=5 then FG a.parts b.parts else if a.node.kind=6 then(if KZ (F2 a) (F2 b)≠0 then KZ (F2 a) (F2 b)else FG a.parts b.parts)else 0):=by
 obtain⟨n,ps⟩:=a
 rw[F5]
 show(if n.kind≠b.node.kind then _ else _)=(if n.kind≠b.node.kind then _ else _)
 split
 ·rfl
 ·rename_i h
  by_cases h6:n.kind=6
  ·have e:F2 (.mk n ps)=ps.map (·.node.name):=if_pos h6
   have e2:F2 b=b.parts.map (·.node.name):=if_pos Aa
   rw[e,e2];rfl
  ·show(if n.kind=3 then _ else if n.kind=4 then _ else if n.kind=5 then _ else if n.kind=6 then _ else _)=(if n.kind=3 then _ else if n.kind=4 then _ else if n.kind=5 then _ else if n.kind=6 then _ else _)
   rw[if_neg h6,if_neg h6];rfl
end Go.Eng
namespace Go.Proofs.YtnoegalemkbbbaaGreatDoor
open Go.Proofs.Tryz
open Go.Eng
theorem iI: ∀(n:Nat) (a b:Tr),a.size<=n->a.wf->b.wf->LV a->LV b->len a.flat<=1048576->len b.flat<=1048576->iG a b:=by
 intro n
 induction n with
 |zero=>intro a b h;have:=a.size_pos;omega
 |succ n ih=>
 intro a b hn A C P Q E F v u w M hM hv hu
 have hl1:=FQ a
 have hl2:=FQ b
 have hs1:=a.size_pos
 have hs2:=b.size_pos
 have T:at' a.flat 0=a.node:=a.BA
 have V:at' b.flat 0=b.node:=b.BA
 have j:=uH a b
 have G:=P.node
 have H:=Q.node
 rw[<-T]at j G
 rw[<-V]at j H
 have hpa:=IX a.parts
 have hpb:=IX b.parts
 have hza:=a.size_eq
 have hzb:=b.size_eq
 have J: ∀x∈AP a.parts,∀y∈AP b.parts,iG x y:=λ x hx y hy=>by
  obtain⟨p,hp,rfl⟩:=iH hx
  obtain⟨q,K,rfl⟩:=iH hy
  have h1:=YT hp
  have L:=YT K
  have N:=FQ (p.named [])
  have O:=FQ (q.named [])
  rw[Tr.LD]at N O
  exact ih _ _ (by rw[Tr.LD];omega) (Tr.fS (ZD (Tr.YS A) hp)) (Tr.fS (ZD (Tr.YS C) K)) ((P.HV hp).named []) ((Q.HV K).named []) Aa Aa
 refine AE (Hr:=[]) A8 func71 U ntmps71 [(0,kn v 6 a.flat Nd.cells),(1,kn u 6 b.flat Nd.cells)] [] [.sl 0 v,.sl 1 u] U (Aj hM) (AA hv (AA hu A3)) (λ B D=>DQ U BI Ac <|DR U ?_) U
 refine A1 U (λ h1=>?_) (λ h1=>?_)<;>simp only[zb]at h1
 ·exact AB U call127 U U (λ _ w M i=>R0 (decide ((at' a.flat 0).kind<(at' b.flat 0).kind)) false w) U <|A2 D U U U λ w M i=>⟨by rw[j,if_pos h1];rfl,i.st.low⟩
 have hkk:(at' a.flat 0).kind=(at' b.flat 0).kind:=by omega
 rw[if_neg Aa]at j
 refine A1 U (λ L=>?_) (λ L=>?_)<;>simp only[zb]at L
 ·have fin: ∀w:World,Calls prog 128 [EH { at' a.flat 0 with name:=[]},EH { at' b.flat 0 with name:=[]}].toArray w λ e w'=>e= .returned (i64 (F5 a b))/\Ext w w':=λ w=>by
   rw[j,if_pos L,<-VW _ _ [] []]
   exact iE { at' a.flat 0 with name:=[]} { at' b.flat 0 with name:=[]} w G.b H.b (G.f L) (H.f Aa)
  refine EJ [6,7,8,9] 5 (λ _ _ _ _ _ h=>h) U BI Ac <|H3 6 7 U U U ?_ ?_
  ·exact AZ 7 U zeroValue46 U λ b7=>AI U <|AL 7 U U U <|AZ 8 U zeroValue46 U λ b8=>AI U <|AL 8 U U U <|AI U <|AL 9 U U U <|AI U <|BV U U U <|AB U call128 U U (λ _ w M i=>fin w) U <|A2 D U U U λ w M i=>⟨rfl,i.st.low⟩
  ·exact AZ 8 U zeroValue46 U λ b8=>AI U <|AL 6 U U U <|AZ 7 U zeroValue46 U λ b7=>AI U <|AL 8 U U U <|AI U <|AL 9 U U U <|AI U <|BV U U U <|AB U call128 U U (λ _ w M i=>fin w) U <|A2 D U U U λ w M i=>⟨rfl,i.st.low⟩
 rw[if_neg L]at j
 refine A1 U (λ N=>?_) (λ N=>?_)<;>simp only[zb]at N
 ·exact DQ U BI Ac <|EZ U call127 U U (λ _ w M i=>R0 (Op.bytesLess (at' a.flat 0).s (at' b.flat 0).s) ((at' a.flat 0).s==(at' b.flat 0).s) w) U <|DR U <|A2 D U U U λ w M i=>⟨by rw[j,if_pos N];rfl,i.st.low⟩
 rw[if_neg N]at j
 have z: ∀(p q:Value) (W gs:List AJ) (w:World) (M:Mem),Sat w M->(CN p W (JO a)).ok M->(CN q gs (JO b)).ok M->Calls prog 129 [p,q].toArray w λ e w'=>e= .returned (i64 (FG a.parts b.parts))/\Ext w w':=λ p q W gs w M hS hp K=>by
  rw[LU]at hp K
  rw[<-uF]
  have e: ∀l:List Tr,len (AP l)=len l:=λ l=>by unfold AP len;rw[List.length_map]
  exact Ap1 _ _ J p q W gs w M hS hp K (by rw[e];omega) (by rw[e];omega)
 refine A1 U (λ O=>?_) (λ O=>?_)<;>simp only[zb]at O
 ·rw[if_pos O]at j
  exact B3 (λ g:Value×List AJ=>.sl 5 g.1) [5] U U call44 U (λ w M i=>I0 a A v w M i.st.sat (i.sl 0 U) E) λ g hg=>B3 (λ g:Value×List AJ=>.sl 6 g.1) [6] U U call44 U (λ w M i=>I0 b C u w M i.st.sat (i.sl 1 U) F) λ g2 X=>AB U call129 U U (λ _ w M i=>z g.1 g2.1 g.2 g2.2 w M i.st.sat (i.f.get (k:=5) U) (i.f.get (k:=6) U)) U <|A2 D U U U λ w M i=>⟨by rw[j];rfl,i.st.low⟩
 rw[if_neg O]at j
 refine A1 U (λ R=>?_) (λ R=>?_)<;>simp only[zb]at R
 ·rw[if_pos R]at j
  have el: ∀t:Tr,len (F2 t)<=len t.parts:=λ t=>by
   unfold F2
   split
   ·unfold len;rw[List.length_map];exact Int.le_refl _
   ·exact A6 _
  have ea:=el a
  have eb:=el b
  refine B3 (λ g:Value=>.sl 5 g) [5] U U call110 U (λ w M i=>gW a A v w M i.st.sat (i.sl 0 U) E) λ g hg=>B3 (λ g:Value=>.sl 6 g) [6] U U call110 U (λ w M i=>gW b C u w M i.st.sat (i.sl 1 U) F) λ g2 X=>AB U call130 U U (λ _ w M i=>Ap0 (F2 a) (F2 b) g g2 w M i.st.sat (i.f.get (k:=5) U) (i.f.get (k:=6) U) Aa Aa) U ?_
  refine A1 U (λ S=>?_) (λ S=>?_)<;>simp only[zb]at S
  ·exact A2 D U U U λ w M i=>⟨by rw[j,if_pos S];rfl,i.st.low⟩
  rw[if_neg (by simpa using S)]at j
  exact B3 (λ g:Value×List AJ=>.sl 7 g.1) [7] U U call44 U (λ w M i=>I0 a A v w M i.st.sat (i.sl 0 U) E) λ g3 hg3=>B3 (λ g:Value×List AJ=>.sl 8 g.1) [8] U U call44 U (λ w M i=>I0 b C u w M i.st.sat (i.sl 1 U) F) λ g4 hg4=>AB U call129 U U (λ _ w M i=>z g3.1 g4.1 g3.2 g4.2 w M i.st.sat (i.f.get (k:=7) U) (i.f.get (k:=8) U)) U <|A2 D U U U λ w M i=>⟨by rw[j];rfl,i.st.low⟩
 rw[if_neg R]at j
 exact A2 D U U U λ w M i=>⟨by rw[j];rfl,i.st.low⟩
end Go.Proofs.YtnoegalemkbbbaaGreatDoor
namespace Go.Eng
def FH(s:Sp)(x:Tr):Option Tr:=
 if s.part=true then(if x.node.kind=5/\s.n<len x.parts then some ((at' x.parts s.n).named [])else none)else BX s.name x
def KC(s:Sp)(x:Tr):Int:=
 if(s.part=true/\x.node.kind≠5)\/(s.part=false/\x.node.kind≠6)then 5 else if(FH s x).isSome=true then 0 else 6
def HF:List Sp->Tr->Option Tr
 |[],x=>some x
 |s::p,x=>match FH s x with
  |some y=>HF p y
  |none=>none
def MW:List Sp->Tr->Int
 |[],x=>0
 |s::p,x=>match FH s x with
  |some y=>MW p y
  |none=>KC s x
theorem uI{n:A0}{y:Tr}: ∀ {l:List Tr},OZ n l=some y-> ∃u∈l,y=u.named []
 |t::l,h=>by
  rw[OZ]at h
  split at h
  ·exact⟨t,.head _,(Option.some.inj h).symm⟩
  ·obtain⟨u,hu,e⟩:=uI h
   exact⟨u,.tail _ hu,e⟩
theorem uJ{n:A0}{x y:Tr}(h:BX n x=some y): ∃u∈x.parts,y=u.named []:=by
 unfold BX at h
 split at h
 ·exact uI h
 ·cases h
theorem uK{s:Sp}{x y:Tr}(b:0<=s.n)(h:FH s x=some y): ∃u∈x.parts,y=u.named []:=by
 unfold FH at h
 split at h
 ·split at h
  ·rename_i e
   exact⟨_,at_mem b e.2,(Option.some.inj h).symm⟩
  ·cases h
 ·exact uJ h
structure CD (x:Tr):Prop where
 w:x.wf
 r:LV x
 l:len x.flat<=1048576
theorem CD.HV {x u:Tr}(h:CD x)(hu:u∈x.parts):CD (u.named []):=by
 have h1:=YT hu
 have b:=FQ (u.named [])
 have e:=FQ x
 have i:=h.l
 have j:=x.size_eq
 rw[Tr.LD]at b
 exact⟨Tr.fS (ZD (Tr.YS h.w) hu),(h.r.HV hu).named [],Aa⟩
end Go.Eng
namespace Go.Proofs.YtnoegalemkbbbaaGreatDoor
open Go.Proofs.Tryz
open Go.Eng
abbrev uL(w:World)(M:Mem)(o:Option Tr)(e:Int):Ending->World->Prop:=ET w M (λ h:AJ=>.tuple #[h.v,i64 e]) (λ _=>True) (λ h=>[(0,kn h.v 6 (P0 o) Nd.cells)])
theorem Ap2(s:Sp)(E:0<=s.n)(x:Tr)(hx:CD x)(v:Value)(w:World)(M:Mem)(G:Sat w M)(H:(kn v 6 x.flat Nd.cells).ok M):
    Calls prog 74 [v,rJ s].toArray w (uL w M (FH s x) (KC s x)):=by
 have J:=FQ x
 have K:=x.size_pos
 have D:at' x.flat 0=x.node:=x.BA
 have F:=hx.l
 refine AE (Hr:=[]) A8 func74 U ntmps74 [(0,kn v 6 x.flat Nd.cells)] [] [.sl 0 v,xSp s] U (Aj G) (AA H A3) (λ B q=>BO 3 U U U λ N=>?_) U
 refine A1 U (λ h1=>?_) (λ h1=>?_)<;>simp only[zb]at h1<;>rw[D]at h1
 ·have e5:(s.part=true/\x.node.kind≠5)\/(s.part=false/\x.node.kind≠6):=h1
  have en:FH s x=none:=by
   unfold FH
   rcases e5 with⟨j,i⟩|⟨j,i⟩
   · rw[if_pos j,if_neg (λ h=>i h.1)]
   · rw[if_neg (by rw[j];decide)];unfold BX;rw[if_neg i]
  refine A2 q U U U λ w M e=>⟨⟨none,0,0⟩,M,by unfold KC;rw[if_pos e5];rfl,trivial,e.st.done,?_⟩
  rw[en];exact fc 0 (Sl.nil M 6) Nd.AO A3
 have e5: ¬((s.part=true/\x.node.kind≠5)\/(s.part=false/\x.node.kind≠6)):=by
  rintro(⟨a,b⟩|⟨a,b⟩)
  · rcases h1.1 with h|h
    · rw[a]at h;cases h
    · exact b h
  · rcases h1.2 with h|h
    · rw[a]at h;cases h
    · exact b h
 refine A1 U (λ j=>?_) (λ j=>?_)
 ·have L:x.node.kind=5:=Classical.byContradiction λ h=>e5 (.inl ⟨j,h⟩)
  refine B3 (λ g:Value×List AJ=>.sl 6 g.1) [6] U U call44 U (λ w M e=>I0 x hx.w v w M e.st.sat (e.sl 0 U) F) λ g hg=>?_
  obtain⟨pv,z⟩:=g
  have hg:len z=len x.parts:=hg
  refine A1 U (λ i=>?_) (λ i=>?_)<;>simp only[zb]at i
  ·have en:FH s x=none:=by unfold FH;rw[if_pos j,if_neg (λ h=>by omega)]
   refine A2 q U U U λ w M e=>⟨⟨none,0,0⟩,M,by unfold KC;rw[if_neg e5,en];rfl,trivial,e.st.done,?_⟩
   rw[en];exact fc 0 (Sl.nil M 6) Nd.AO A3
  ·have en:FH s x=some ((at' x.parts s.n).named []):=by unfold FH;rw[if_pos j,if_pos ⟨L,Aa⟩]
   refine A2 q U U U λ w M e=>⟨at' z s.n,M,by unfold KC;rw[if_neg e5,en];rfl,trivial,e.st.done,AA ?_ A3⟩
   have:=I1 (e.f.get (k:=6) U) E Aa
   rw[JO,J6 E Aa]at this
   rw[en];exact this
 have A:s.part=false:=by simpa using j
 have O:x.node.kind=6:=Classical.byContradiction λ h=>e5 (.inr ⟨A,h⟩)
 have en:FH s x=BX s.name x:=by unfold FH;rw[if_neg (by rw[A];decide)]
 refine B3 (λ h:AJ=>.tu [.sl 6 h.v,.v (.bool (BX s.name x).isSome)]) [6] U U call104 U (λ w M e=>SZ x hx.w s.name v w M e.st.sat (e.sl 0 U) F) λ h _=>A1 U (λ i=>?_) (λ i=>?_)
 ·have e3:(BX s.name x).isSome=false:=by simpa using i
  have C:FH s x=none:=by rw[en];cases hf:BX s.name x with
   |none=>rfl
   |some y=>rw[hf]at e3;cases e3
  refine A2 q U U U λ w M e=>⟨⟨none,0,0⟩,M,by unfold KC;rw[if_neg e5,C];rfl,trivial,e.st.done,?_⟩
  rw[C];exact fc 0 (Sl.nil M 6) Nd.AO A3
 ·have e3:(BX s.name x).isSome=true:=by simpa using i
  refine A2 q U U U λ w M e=>⟨h,M,by unfold KC;rw[if_neg e5,en,if_pos e3];rfl,trivial,e.st.done,?_⟩
  rw[en];exact AA (e.f.get (k:=6) U) A3
theorem Ap3(p:List Sp)(hp: ∀s∈p,0<=s.n)(x:Tr)(hx:CD x)(u v:Value)(w:World)(M:Mem)(L:Sat w M)(hu:(kn u 3 p Sp.cells).ok M)(H:(kn v 6 x.flat Nd.cells).ok M)(N:len p<=1048576):
    Calls prog 29 [u,v].toArray w (uL w M (HF p x) (MW p x)):=by
 have O:=A6 p
 obtain⟨a0,P,C⟩:=Sl.shape H.sl
 obtain⟨h0,D⟩: ∃h0:AJ,v=h0.v:=⟨⟨a0,_,P⟩,C⟩
 subst D
 refine AE (Hr:=[]) A8 func29 U ntmps29 [(0,kn u 3 p Sp.cells),(1,kn h0.v 6 x.flat Nd.cells)] [] [.sl 0 u,.sl 1 h0.v] U (Aj L) (AA hu (AA H A3)) (λ B J=>AT (σ:=Int×Tr×AJ) (λ(k,y,h)=>⟨[(0,kn u 3 p Sp.cells),(1,kn h.v 6 y.flat Nd.cells)],[],[Z 0 (.sl 0 u),Z 1 (.sl 1 h.v),Z 6 (I k)]⟩) (λ(k,y,h)=>0<=k/\k<=len p/\CD y/\HF (p.drop k.toNat) y=HF p x/\MW (p.drop k.toNat) y=MW p x) (λ(k,y,h)=>(len p-k).toNat) (0,x,h0) U U ⟨Aa,Aa,hx,rfl,rfl⟩ ?_) U
 rintro⟨k,y,h⟩ ⟨l,Q,K,hg,he⟩
 refine A1 U (λ h1=>?_) (λ h1=>?_)<;>simp only[zb]at h1
 ·rw[IN l h1,HF]at hg
  rw[IN l h1,MW]at he
  have A:=hp _ (at_mem l h1)
  refine B3 (λ g:AJ=>.tu [.sl 1 g.v,I (KC (at' p k) y)]) [1] U U call74 U (λ w M j=>Ap2 (at' p k) A y K h.v w M j.st.sat (j.f.get (k:=1) U)) λ g _=>?_
  refine A1 U (λ i=>?_) (λ i=>?_)<;>simp only[zb]at i
  ·have e:FH (at' p k) y=none:=by
    cases hf:FH (at' p k) y with
    |none=>rfl
    |some z=>
     exfalso;unfold KC at i
     rw[hf]at i
     split at i
     · rename_i R
       unfold FH at hf
       rcases R with⟨a,b⟩|⟨a,b⟩
       · rw[if_pos a,if_neg (λ h=>b h.1)]at hf;cases hf
       · rw[if_neg (by rw[a];decide)]at hf;unfold BX at hf;rw[if_neg b]at hf;cases hf
     · exact i U
   rw[e]at hg he
   refine A2 J U U U λ w M j=>⟨⟨none,0,0⟩,M,by rw[<-he];rfl,trivial,j.st.done,?_⟩
   rw[<-hg];exact fc 0 (Sl.nil M 6) Nd.AO A3
  ·have i:KC (at' p k) y=0:=by omega
   obtain⟨z,E⟩: ∃z,FH (at' p k) y=some z:=by
    cases hf:FH (at' p k) y with
    |some z=>exact⟨z,rfl⟩
    |none=>
     exfalso;unfold KC at i
     rw[hf]at i
     split at i
     · omega
     · have:(6:Int)=0:=i
       omega
   rw[E]at hg he
   obtain⟨q,S,F⟩:=uK A E
   have G:CD z:=by rw[F];exact K.HV S
   refine C5 U Ad Aa (ES 1 (kn g.v 6 z.flat Nd.cells) (λ w M j=>by have:=j.f.get (k:=1) U;rw[E]at this;exact this) ?_)
   exact AR (k+1,z,g) U U ⟨Aa,Aa,G,hg,he⟩ Ag
 ·refine A2 J U U U λ w M j=>⟨h,M,?_,trivial,j.st.done,?_⟩
  ·rw[KB Aa,MW]at he;rw[<-he];rfl
  ·rw[KB Aa,HF]at hg;rw[<-hg];exact AA (j.f.get (k:=1) U) A3
end Go.Proofs.YtnoegalemkbbbaaGreatDoor
namespace Go.Eng
theorem Ap4(s:A0)(i j:Int):0<=(MQ s i j).1.n:=by
 unfold MQ
 split
 ·exact Int.le_refl _
 ·split
  ·exact Int.le_refl _
  ·rename_i h
   have: ¬(H8 s (j+1)).1<0:=λ e=>h (.inl e)
   show 0<=(H8 s (j+1)).1
   omega
theorem Ap5(s:A0)(i:Int)(b:Bool):0<=(D9 s i b).1.n:=by
 unfold D9
 repeat' split
 all_goals first|exact Int.le_refl _|exact Ap4 _ _ _
theorem uM(s:A0): ∀(f:Nat) (p:List Sp) (i:Int),(∀x∈p,0<=x.n)-> ∀x∈(FN f s p i).1,0<=x.n
 |0,p,i,h=>by rw[FN];exact h
 |f+1,p,i,h=>by
  rw[FN]
  split
  ·exact h
  ·refine uM s f _ _ λ x hx=>?_
   rcases List.mem_append.1 hx with hx|hx
   ·exact h x hx
   ·rw[List.mem_singleton.1 hx];exact Ap5 _ _ _
theorem ZE(s:A0): ∀x∈(CQ s).1,0<=x.n:=by
 have h: ∀x∈(EM s 0).1,0<=x.n:=by
  unfold EM
  split
  ·intro x hx;cases hx
  ·exact uM s 20 [] 0 λ x hx=>by cases hx
 unfold CQ
 repeat' split
 all_goals first|exact h|(intro x hx;cases hx)
def I4(s:A0)(x:Tr):Option Tr:=HF (DA s).1 x
theorem uN: ∀(p:List Sp) (x:Tr),MW p x=0↔(HF p x).isSome=true
 |[],x=>by rw[MW,HF];simp
 |s::p,x=>by
  rw[MW,HF]
  cases hf:FH s x with
  |some y=>exact uN p y
  |none=>
   show KC s x=0↔_
   unfold KC
   rw[hf]
   split
   ·exact⟨λ h=>by omega,λ h=>by cases h⟩
   ·exact⟨λ h=>absurd (show(6:Int)=0 from h) Aa,λ h=>by cases h⟩
theorem uO: ∀ {p:List Sp} {x y:Tr},(∀s∈p,0<=s.n)->CD x->HF p x=some y->CD y
 |[],x,y,_,hx,h=>by rw[HF]at h;exact Option.some.inj h▸hx
 |s::p,x,y,hp,hx,h=>by
  rw[HF]at h
  cases hf:FH s x with
  |none=>rw[hf]at h;cases h
  |some z=>
   rw[hf]at h
   obtain⟨u,hu,rfl⟩:=uK (hp s (.head _)) hf
   exact uO (λ t b=>hp t (.tail _ b)) (hx.HV hu) h
theorem iJ{s:A0}{x y:Tr}(hx:CD x)(h:I4 s x=some y):CD y:=uO (ZE s) hx h
def EB(s:A0)(l:List Tr):List Vl:=l.map λ x=>P0 (I4 s x)
def R1:List Tr->Bool
 |a::b::l=> !decide (F5 b a<0)&&R1 (b::l)
 |_=>true
end Go.Eng
namespace Go.Proofs.YtnoegalemkbbbaaGreatDoor
open Go.Proofs.Tryz
open Go.Eng
theorem Ap6{e:World}{M:Mem}(s:A0)(hS:Sat e M)(h:len s<=1048576):
  Calls prog 158 [str s].toArray e (ET e M (λ v:Value=>v) (λ _=>True) (λ v=>[(0,kn v 3 (DA s).1 Sp.cells)])):=AE A8 func158 U ntmps158 [] [] [.v (str s)] U (Aj hS) A3 (λ B i=>B3 (λ v:Value=>.tu [.sl 1 v,.v (.bool (DA s).2)]) [1] U U call67 U (λ w M b=>ZA s b.st.sat h) λ v _=>A2 i U U U λ w M b=>⟨v,M,rfl,trivial,b.st.done,fc 0 (b.sl 1 U) Sp.AO A3⟩) U
theorem uP(s:A0)(l:len s<=1048576)(x:Tr)(hx:CD x)(v:Value)(w:World)(M:Mem)(n:Sat w M)(q:(kn v 6 x.flat Nd.cells).ok M):
    Calls prog 105 [str s,v].toArray w (ET w M (λ h:AJ=>h.v) (λ _=>True) (λ h=>[(0,kn h.v 6 (P0 (I4 s x)) Nd.cells)])):=by
 have hl:=VN s
 refine AE (Hr:=[]) A8 func105 U ntmps105 [(1,kn v 6 x.flat Nd.cells)] [] [.v (str s),.sl 1 v] U (Aj n) (AA q A3) (λ B j=>B3 (λ u:Value=>.sl 2 u) [2] U U call158 U (λ w M b=>Ap6 s b.st.sat l) λ u _=>B3 (λ g:AJ=>.tu [.sl 3 g.v,I (MW (DA s).1 x)]) [3] U U call29 U (λ w M b=>Ap3 (DA s).1 (ZE s) x hx u v w M b.st.sat (b.f.get (k:=2) U) (b.f.get (k:=1) U) (by show len (CQ s).1<=_;omega)) λ g _=>?_) U
 have hi:=uN (DA s).1 x
 refine A1 U (λ i=>?_) (λ i=>?_)<;>simp only[zb]at i
 ·have e:I4 s x=none:=by
   show HF (DA s).1 x=none
   cases hf:HF (DA s).1 x with
   |none=>rfl
   |some y=>rw[hf]at hi;exact absurd (hi.2 U) i
  refine A2 j U U U λ w M b=>⟨⟨none,0,0⟩,M,rfl,trivial,b.st.done,?_⟩
  rw[e];exact fc 0 (Sl.nil M 6) Nd.AO A3
 ·exact A2 j U U U λ w M b=>⟨g,M,rfl,trivial,b.st.done,AA (b.f.get (k:=3) U) A3⟩
theorem uQ(s:A0)(C:len s<=1048576)(l:List Tr)(hx: ∀x∈l,CD x)(hl:len l<=1048576)(v:Value)(n:List AJ)(w:World)(M:Mem)(D:Sat w M)(A:(CN v n (l.map Tr.flat)).ok M):
    Calls prog 51 [str s,v].toArray w (ET w M (λ g:Value×List AJ=>g.1) (λ g=>len g.2=len l) (λ g=>[(0,CN g.1 g.2 (EB s l))])):=by
 have E:=A6 l
 have q:len n=len l:=by have:=CB.len (f:=Nd.cells) A.more;unfold len;rw[List.length_map]at this;omega
 refine AE (Hr:=[]) A8 func51 U ntmps51 [(0,CN v n (l.map Tr.flat))] [] [.v (str s),.sl 0 v] U (Aj D) (AA A A3) (λ B F=>B9 1 [] CA 1 33 DJ U U Ah U λ u=>C5 U Ad Aa (ES 6 (CN u [] ((EB s l).take (0:Int).toNat)) (λ w M b=>⟨b.sl 1 U,DJ,trivial⟩) ?_)) U
 refine AT (σ:=Int×Value×List AJ) (λ(k,u,gs)=>⟨[(0,CN v n (l.map Tr.flat)),(1,kn u 1 gs CA),(6,CN u gs ((EB s l).take k.toNat))],[(1,.ho (tH u gs))],[Z 0 (.v (str s)),Z 1 (.sl 0 v),Z 5 (.sl 1 u),Z 6 (I k)]⟩) (λ(k,u,gs)=>0<=k/\k<=len l/\len gs=k) (λ(k,u,gs)=>(len l-k).toNat) (0,u,[]) U U ⟨Aa,Aa,rfl⟩ ?_
 rintro⟨k,u,gs⟩ ⟨e,G,y⟩
 refine A1 U (λ h1=>?_) (λ h1=>?_)<;>simp only[zb]at h1
 ·have j:k.toNat<l.length:=by unfold len at q G;unfold len at h1;omega
  refine B3 (λ h:AJ=>.sl 3 h.v) [3] U U call105 U (λ w M b=>by
    have i:=I1 (b.f.get (k:=0) U) e h1
    rw[J6 e Aa]at i
    exact uP s C (at' l k) (hx _ (at_mem e Aa)) _ w M b.st.sat i) λ i _=>?_
  refine B9 7 [i] CA 1 33 DJ U U Ah U λ H=>EC 24 U U U underlying59 type33 U U QM (by simp only[AH,len_nil];omega) λ v'=>?_
  have z:(EB s l).take (k+1).toNat=(EB s l).take k.toNat++[P0 (I4 s (at' l k))]:=by
   unfold EB
   rw[show(k+1).toNat=k.toNat+1 by omega,List.take_add_one,List.getElem?_map,List.getElem?_eq_getElem j]
   unfold at'
   rw[List.getD_eq_getElem?_getD,List.getElem?_eq_getElem j];rfl
  refine C5 U Ad Aa (ES 6 (CN v' (gs++[i]) ((EB s l).take (k+1).toNat)) (λ w M b=>⟨b.sl 1 U,DJ,by rw[z];exact CB.snoc (b.sl 3 U) (b.f.get (k:=6) U).more⟩) ?_)
  exact AR (k+1,v',gs++[i]) U U ⟨Aa,Aa,by rw[AN,y];rfl⟩ Ag
 ·refine A2 F U U U λ w M b=>⟨(u,gs),M,rfl,by show len gs=_;omega,b.st.done,AA ?_ A3⟩
  have:=b.f.get (k:=6) U
  rw[List.take_of_length_le (by unfold EB;rw[List.length_map];unfold len at*;omega)]at this
  exact this
theorem Ap7(l:List Tr)(hx: ∀x∈l,CD x)(v:Value)(j:List AJ)(w:World)(M:Mem)(A:Sat w M)(q:(CN v j (l.map Tr.flat)).ok M)(hl:len l<=1048576):
    Calls prog 50 [v].toArray w λ e w'=>e= .returned (.bool (R1 l))/\Ext w w':=by
 have C:=A6 l
 have D:len j=len l:=by have:=CB.len (f:=Nd.cells) q.more;unfold len;rw[List.length_map]at this;omega
 refine AE (Hr:=[]) A8 func50 U ntmps50 [(0,CN v j (l.map Tr.flat))] [] [.sl 0 v] U (Aj A) (AA q A3) (λ B s=>AT (σ:=Int) (λ k=>⟨[(0,CN v j (l.map Tr.flat))],[],[Z 0 (.sl 0 v),Z 3 (I k)]⟩) (λ k=>1<=k/\k<=len l+1/\R1 (l.drop (k-1).toNat)=R1 l) (λ k=>(len l-k).toNat) 1 U U ⟨Aa,Aa,rfl⟩ ?_) U
 rintro k ⟨E,F,i⟩
 refine A1 U (λ h1=>?_) (λ h1=>?_)<;>simp only[zb]at h1
 ·rw[IN (k:=k-1) Aa Aa,show k-1+1=k by omega,IN (k:=k) Aa Aa,R1,<-IN (k:=k) Aa Aa]at i
  refine DQ U BI Ac ?_
  refine EZ U call71 U U (λ _ w M h=>by
    have y:=I1 (h.f.get (k:=0) U) (k:=k) Aa Aa
    have z:=I1 (h.f.get (k:=0) U) (k:=k-1) Aa Aa
    rw[J6 Aa Aa]at y z
    have a:=hx _ (at_mem (l:=l) (k:=k) Aa Aa)
    have b:=hx _ (at_mem (l:=l) (k:=k-1) Aa Aa)
    exact iI _ _ _ (Nat.le_refl _) a.w b.w a.r b.r a.l b.l _ _ w M h.st.sat y z) U ?_
  refine DR U ?_
  refine A1 U (λ n=>?_) (λ n=>?_)<;>simp only[zb]at n
  ·exact A2 s U U U λ w M h=>⟨by rw[<-i,decide_eq_true n];rfl,h.st.low⟩
  ·rw[decide_eq_false Aa]at i
   exact AR (k+1) U U ⟨Aa,Aa,by rw[show k+1-1=k by omega];exact i⟩ Ag
 ·refine A2 s U U U λ w M h=>⟨?_,h.st.low⟩
  have e:R1 (l.drop (k-1).toNat)=true:=by
   have:(l.drop (k-1).toNat).length<=1:=by rw[List.length_drop];unfold len at*;omega
   match hq:l.drop (k-1).toNat with
   |[]=>rfl
   |[_]=>rfl
   |_::_::_=>rw[hq]at this;simp at this
  rw[<-i,e];rfl
end Go.Proofs.YtnoegalemkbbbaaGreatDoor
namespace Go.Eng
open Go.RowKit Go.Lib
abbrev G5(e:TypeId)(l:List Int)(sp:List Value):Obj:=.cells (l.map (Value.int .u8)++sp).toArray e ((l.map (Value.int .u8)++sp).length,(l.map (Value.int .u8)++sp).length+1)
theorem St.iK {w0 w:World}{M0 M:Mem}{Hs:List HO}(h:St w0 M0 w M Hs)(e:TypeId)(s:A0): ∃sp,St w0 M0 (bytesWorld w e ⟨⟨s⟩⟩) M (.raw w.heap.size (G5 e (ints s) sp)::Hs):=by
 have hE:Ext w (bytesWorld w e ⟨⟨s⟩⟩):=Joins.below_bytesWorld _ _ _ _ (Nat.le_refl _)
 have h1:=h.ext hE
 have k:=bytesWorld_at_new w e ⟨⟨s⟩⟩
 have l:bytesCells w e ⟨⟨s⟩⟩=((ints s).map (Value.int .u8)++(List.replicate (grownCap w s.length 0 e-s.length) (Value.int .u8 0))).toArray:=by
  apply Array.ext'
  unfold bytesCells ints
  simp
  rfl
 refine⟨List.replicate (grownCap w s.length 0 e-s.length) (.int .u8 0),h1.low,h1.sat,h1.old,λ x hx=>?_,List.pairwise_cons.2 ⟨λ y n b j=>?_,h.apart⟩⟩
 ·rcases List.mem_cons.1 hx with rfl|hx
  ·refine⟨h.size,?_,λ o=>h.PJ (Nat.le_refl _) o⟩
   rw[k,l,List.size_toArray]
  ·exact h1.ok x hx
 ·simp only[HO.FJ,Option.some.injEq]at j;subst j
  intro i
  have:=(HO.ok.lt (h.ok y n) i).2
  omega
section
variable {P:Program} {C:World->Prop} {L:Env} {W:Bool} {d:Option Tmp} {ty:TypeId} {ps:String} {af:Array Edge} {gd:Option (Nat×Bool)} {w0 w:World} {M0 M:Mem} {Hs:List HO}
theorem PV.iL {t e:TypeId}{x:Operand}{p:Option Addr}{n c:Nat}(hx:AD L W x (.slice p n c))(b:P.underlying t=some (.slice e)):PV P C L W ⟨d,.call ⟨.builtin .len,#[x],#[t]⟩,ty,ps,af,gd⟩ (i64 n):=by
 intro ac N h i w' _
 have key:(Builtin.len_ #[t] ty #[.slice p n c]).run P w'= .ok (i64 n) w':=by
  simp[Builtin.len_,run_underlying b,goInt]
 simp only[execOp,resolve,invoke,builtin,List.map_toArray,List.map_cons,List.map_nil,hx ac N h i,Sem.run_bind,Sem.run_pure,Result.andThen_ok,key]
theorem PV.P9 {t e:TypeId}{x y:Operand}{b n c:Nat}{k:IntKind}{i:Int}(hx:AD L W x (.slice (some ⟨b,0,none⟩) n c))(l:AD L W y (.int k i))(q:P.underlying t=some (.slice e))(s: ∀w,(sizeOf e).run P w= .ok 1 w)
  (z:W=true->0<=i/\i<(n:Int)):PV P C L W ⟨d,.indexAddr t x y,ty,ps,af,gd⟩ (.pointer (some ⟨b,i.toNat,none⟩)):=by
 intro ac N h j w' _
 obtain⟨h0,h1⟩:=z j
 have key:(Instr.indexAt t (.slice (some ⟨b,0,none⟩) n c) (.int k i)).run P w'= .ok (.pointer (some ⟨b,i.toNat,none⟩)) w':=by
  simp[Instr.indexAt,run_underlying q,asIntOf,h0,h1,s,F6]
 simp only[execOp,hx ac N h j,l ac N h j]
 rw[Sem.run_bind,key]
 rfl
theorem iM{l:List Int}{sp:List Value}{b j:Nat}{e:TypeId}{w:World}(h:w.heap[b]? =some (G5 e l sp))(k:j<l.length):w.cell? ⟨b,j,none⟩=some (.int .u8 (at' l (j:Int))):=by
 obtain⟨h1,n⟩:=DB l (i:=(j:Int)) Aa (by unfold len;omega)
 unfold World.cell?
 rw[h]
 simp only[Option.isSome_none,Bool.false_eq_true,if_false]
 rw[n]
 simp[List.getElem?_append_left,k]
theorem PV.Ap8 {t e:TypeId}{x:Operand}{q b j:Nat}{l:List Int}{sp:List Value}(hS:St w0 M0 w M Hs)(hC: ∀w',C w'->Ext w w')(hi:Hs[q]? =some (.raw b (G5 e l sp)))(hx:AD L W x (.pointer (some ⟨b,j,none⟩)))(h: ∀w,(isAgg t).run P w= .ok false w)
  (i:W=true->j<l.length):PV P C L W ⟨d,.load t x,ty,ps,af,gd⟩ (.int .u8 (at' l (j:Int))):=
 .WD hx h λ k w' hw=>iM ((hS.ext (hC w' hw)).obj hi).2.1 (i k)
theorem PV.Ap9 {src dst e z:TypeId}{x:Operand}{q b c n:Nat}{l:List Int}{sp:List Value}(hS:St w0 M0 w M Hs)(hC: ∀w',C w'->Ext w w')(hi:Hs[q]? =some (.raw b (G5 e l sp)))(hx:AD L W x (.slice (some ⟨b,0,none⟩) n c))(E:n=l.length)
  (F:P.underlying src=some (.slice z)) (he:P.underlying z=some (.int .u8)) (hd:P.underlying dst=some .string):PV P C L W ⟨d,.convert src dst x,ty,ps,af,gd⟩ (str (toStr l)):=by
 subst E
 intro a N A G w' B
 have k:=((hS.ext (hC w' B)).obj hi).2.1
 have s: ∀j v',(l.map (Value.int .u8))[j]? =some v'->w'.cell? ((⟨b,0,none⟩:Addr).add j)=some v':=by
  intro j v' D
  rw[F6,Nat.zero_add]
  have y:j<l.length:=by have:=(List.getElem?_eq_some_iff.1 D).1;rwa [List.length_map]at this
  rw[iM k y,<-D]
  obtain⟨h1,H⟩:=DB l (i:=(j:Int)) Aa (by unfold len;omega)
  rw[H];simp[y]
 have h:=run_loadCells_list (P:=P) w' ⟨b,0,none⟩ (l.map (Value.int .u8)) s
 rw[List.length_map]at h
 have key:(convert src dst (.slice (some ⟨b,0,none⟩) l.length c)).run P w'= .ok (str (toStr l)) w':=by
  rw[run_convert_bytes_string w' src dst z (some ⟨b,0,none⟩) l.length c F he hd,run_bytesToString w' ⟨b,0,none⟩ l.length c l h,foldl_push]
  simp[str]
 simp only[execOp,hx a N A G]
 rw[Sem.run_bind,key];rfl
end
section
variable {P:Program} {ops:Array Oper} {Q:Exit->Act->World->Prop} {N:Nat} {rest:List Oper} {L:Env} {w0 w:World} {M0 M:Mem} {Hs:List HO} {d:Nat} {ty:TypeId} {ps:String} {af:Array Edge}
theorem RL.iK {s:A0}{src dst e:TypeId}{x:Operand}(hS:St w0 M0 w M Hs)(hx:AD L true x (str s))(k:P.underlying src=some .string)(l:P.underlying dst=some (.slice e))(he:P.underlying e=some (.int .u8))(hd:Nat.blt d N=true)
  (h: ∀b c sp w',St w0 M0 w' M (.raw b (G5 e (ints s) sp)::Hs)->RL P ops Q N rest ((d,true,.slice (some ⟨b,0,none⟩) s.length c)::L) w'):RL P ops Q N (⟨some d,.convert src dst x,ty,ps,af,none⟩::rest) L w:=by
 intro a i
 refine wpList_plain U λ K n=>?_
 have key:(execOp a.eval ⟨some d,.convert src dst x,ty,ps,af,none⟩).run P w= .ok (.value (.slice (some ⟨w.heap.size,0,none⟩) s.length (grownCap w s.length 0 e))) (bytesWorld w e ⟨⟨s⟩⟩):=by
  simp only[execOp,hx a N i U]
  rw[Sem.run_bind,Go.Lib.run_convert_string_bytes w src dst e ⟨⟨s⟩⟩ k l he];rfl
 simp only[Oper.wp,key,Oper.upon_value]
 obtain⟨sp,j⟩:=hS.iK e s
 exact n _ _ (h _ _ sp _ j _ (i.put hd true _))
theorem RL.Aq0 {t e:TypeId}{x y:Operand}{q b j:Nat}{u:Int}{l:List Int}{sp:List Value}(hS:St w0 M0 w M Hs)(hi:Hs[q]? =some (.raw b (G5 e l sp)))(hx:AD L true x (.pointer (some ⟨b,j,none⟩)))(H:AD L true y (.int .u8 u))(J: ∀w,(sizeOf t).run P w= .ok 1 w)
  (G:j<l.length) {Hs':List HO} (A:Hs.set q (.raw b (G5 e (l.set j u) sp))=Hs') (h: ∀w',St w0 M0 w' M Hs'->RL P ops Q N rest L w'):RL P ops Q N (⟨none,.store t x y,ty,ps,af,none⟩::rest) L w:=by
 intro a i
 refine wpList_plain U λ K O=>?_
 obtain⟨_,n,_⟩:=hS.obj hi
 have R:j<(l.map (Value.int .u8)++sp).length:=by simp;omega
 have B:b<w.heap.size:=by
  rcases Nat.lt_or_ge b w.heap.size with C|C
  ·exact C
  ·simp[C]at n
 have s:=run_storeCells_cells (P:=P) b j [.int .u8 u] 0 w (λ k D=>by
   have:k=0:=by simpa using D
   subst this
   show(w.cell? ⟨b,j,none⟩).isSome=true
   rw[iM n G];rfl) (λ k D=>by
   have:k=0:=by simpa using D
   subst this
   show w.frozen? ⟨b,j,none⟩=false
   unfold World.frozen?
   simp only[n]
   simp only[Bool.and_eq_false_iff,decide_eq_false_iff_not]
   exact .inl Aa) (by intro v S;rw[List.mem_singleton.1 S];rfl)
 have T:w.setCells b (j+0) [.int .u8 u]=w.putObj b (G5 e (l.set j u) sp):=by
  show w.setCell ⟨b,j+0,none⟩ (.int .u8 u)=_
  unfold World.setCell World.putObj
  congr 1
  apply Array.ext
  ·simp
  ·intro k V E
   simp only[Array.getElem_modify]
   have F:w.heap[b]=G5 e l sp:=by rw[Array.getElem?_eq_getElem B]at n;exact Option.some.inj n
   by_cases hkb:b=k
   ·subst hkb
    simp only[if_true,F,Option.isSome_none,Bool.false_eq_true,if_false]
    have hl:(l.set j u).map (Value.int .u8)=(l.map (Value.int .u8)).set j (.int .u8 u):=List.map_set
    simp only[G5,hl,List.length_append,List.length_set,List.length_map,Nat.add_zero]
    congr 1
    simp[Array.getElem_setIfInBounds,List.set_append_left,G]
   ·rw[if_neg hkb];exact(Array.getElem_setIfInBounds_ne (by simpa using E) hkb).symm
 rw[T]at s
 have key:(Instr.storeAt t (.pointer (some ⟨b,j,none⟩)) (.int .u8 u)).run P w= .ok () (w.putObj b (G5 e (l.set j u) sp)):=by
  have W:(Value.int .u8 u).cells= #[.int .u8 u]:=rfl
  simp only[Instr.storeAt,Instr.sureAddr,storeVar,Sem.run_bind,Sem.run_pure,Result.andThen_ok,J,W,List.size_toArray,List.length_singleton,ne_eq,not_true_eq_false,if_false,s]
 have z:(execOp a.eval ⟨none,.store t x y,ty,ps,af,none⟩).run P w= .ok .skip (w.putObj b (G5 e (l.set j u) sp)):=by
  simp only[execOp,hx a N i U,H a N i U];rw[Sem.run_bind,key];rfl
 simp only[Oper.wp,z,Oper.upon_skip]
 exact O _ _ (h _ (A▸hS.S4 hi (G5 e (l.set j u) sp)) _ i)
end
open Go.RowKit
section
variable {c:Cx} {B:Exit->Act->World->Prop} {k k':List Fr} {m:Md} {s s':XS} {O:Prop} {E:List Ck} {all:Array Oper} {rest:List Oper} {d:Nat} {ty:TypeId} {ps:String} {af:Array Edge}
theorem uR(kk:Nat){t u e:TypeId}{x:Operand}{a:A0}{E1:List Ck}(h:run c.T c.N k m s=⟨k',.ops all (⟨some d,.convert t u x,ty,ps,af,none⟩::rest),s',O,E⟩)(hx:B5 s'.L .t x=some (.v (str a),E1))
  (j:c.P.underlying t=some .string) (hu:c.P.underlying u=some (.slice e)) (he:c.P.underlying e=some (.int .u8))
  (l: ∀b cap sp,XG c B k' (.ops all rest) ⟨s'.F,(kk,.ho (.raw b (G5 e (ints a) sp)))::s'.H,(d,.t,.v (.slice (some ⟨b,0,none⟩) a.length cap))::s'.L⟩) (hE:A9 E:=by exact Ad) (hO:O:=by exact Af) (hE1:A9 E1:=by exact Ad) (hd:Nat.blt d c.N=true:=by exact rfl):XG c B k m s:=
 E7 h (hE:=hE) (hO:=hO) λ w M i=>RL.iK i.st (AF hx (hE:=hE1)) j hu he hd λ b cap sp w' hS=>E8 (l b cap sp) ⟨hS,i.f,i.le⟩ U
theorem ZF(kk j:Nat){t e:TypeId}{x y:Operand}{b:Nat}{u:Int}{l:List Int}{sp:List Value}{E1 E2:List Ck}(h:run c.T c.N k m s=⟨k',.ops all (⟨none,.store t x y,ty,ps,af,none⟩::rest),s',O,E⟩)
  (hx:B5 s'.L .t x=some (.v (.pointer (some ⟨b,j,none⟩)),E1)) (z:B5 s'.L .t y=some (.v (.int .u8 u),E2)) (A:DO s'.H kk=some (.ho (.raw b (G5 e l sp)))) (C: ∀w,(sizeOf t).run c.P w= .ok 1 w) (D:j<l.length)
  (G:XG c B k' (.ops all rest) ⟨s'.F,D4 s'.H kk (.ho (.raw b (G5 e (l.set j u) sp))),s'.L⟩) (hE:A9 E:=by exact Ad) (hO:O:=by exact Af) (hE1:A9 (E1++E2):=by exact Ad):XG c B k m s:=by
 refine E7 h (hE:=hE) (hO:=hO) λ w M n=>?_
 obtain⟨q,J,i⟩:=EI (Hr:=c.Hr) A
 exact RL.Aq0 n.st J (AF hx (hE:=hE1.app.1)) (AF z (hE:=hE1.app.2)) C D (Hs':=HD (D4 s'.H kk (.ho (.raw b (G5 e (l.set j u) sp))))++c.Hr) (i (.ho (.raw b (G5 e (l.set j u) sp)))).symm λ w' hS=>E8 G ⟨hS,n.f,n.le⟩ U
theorem ZG(kk j:Nat){t e:TypeId}{x:Operand}{b:Nat}{l:List Int}{sp:List Value}{E1:List Ck}(h:run c.T c.N k m s=⟨k',.ops all (⟨some d,.load t x,ty,ps,af,none⟩::rest),s',O,E⟩)
  (hx:B5 s'.L .t x=some (.v (.pointer (some ⟨b,j,none⟩)),E1)) (i:DO s'.H kk=some (.ho (.raw b (G5 e l sp)))) (n: ∀w,(isAgg t).run c.P w= .ok false w) (y:j<l.length)
  (z:XG c B k' (.ops all rest) ⟨s'.F,s'.H,(d,.t,.v (.int .u8 (at' l (j:Int))))::s'.L⟩) (hE:A9 E:=by exact Ad) (hO:O:=by exact Af) (hE1:A9 E1:=by exact Ad) (hd:Nat.blt d c.N=true:=by exact rfl):XG c B k m s:=by
 refine AU (.v (.int .u8 (at' l (j:Int)))) h (hE:=hE) (hO:=hO) (W:=.t) (by rw[hd];rfl) (λ w M A=>?_) z
 obtain⟨q,C,_⟩:=EI (Hr:=c.Hr) i
 exact PV.Ap8 A.st HJ C (AF hx (hE:=hE1)) n λ _=>y
theorem uS(kk:Nat){t u e i:TypeId}{x:Operand}{b n cap:Nat}{l:List Int}{sp:List Value}{E1:List Ck}(h:run c.T c.N k m s=⟨k',.ops all (⟨some d,.convert t u x,ty,ps,af,none⟩::rest),s',O,E⟩)
  (hx:B5 s'.L .t x=some (.v (.slice (some ⟨b,0,none⟩) n cap),E1)) (j:DO s'.H kk=some (.ho (.raw b (G5 e l sp)))) (hl:n=l.length) (y:c.P.underlying t=some (.slice i)) (he:c.P.underlying i=some (.int .u8)) (hu:c.P.underlying u=some .string)
  (z:XG c B k' (.ops all rest) ⟨s'.F,s'.H,(d,.t,.v (str (toStr l)))::s'.L⟩) (hE:A9 E:=by exact Ad) (hO:O:=by exact Af) (hE1:A9 E1:=by exact Ad) (hd:Nat.blt d c.N=true:=by exact rfl):XG c B k m s:=by
 refine AU (.v (str (toStr l))) h (hE:=hE) (hO:=hO) (W:=.t) (by rw[hd];rfl) (λ w M A=>?_) z
 obtain⟨q,C,_⟩:=EI (Hr:=c.Hr) j
 exact PV.Ap9 A.st HJ C (AF hx (hE:=hE1)) hl y he hu
end
def PA:Nat->List Int->Int->List Int
 |0,l,_=>l
 |f+1,l,i=>if at' l i=57 then PA f (l.set i.toNat 48) (i-1)else l.set i.toNat (at' l i+1)
def PB:Nat->List Int->Int->List Int
 |0,l,_=>l
 |f+1,l,i=>if at' l i=48 then PB f (l.set i.toNat 57) (i-1)else l.set i.toNat (at' l i-1)
def PC(s:A0):A0:=toStr (PA (s.length+1) (ints (48::s)) (len s))
def PD(s:A0):A0:=toStr (PB s.length (ints s) (len s-1))
theorem uT{s:A0}(h:GW s){x:Int}(hx:x∈ints s):48<=x/\x<=57:=by
 unfold ints at hx
 obtain⟨y,b,rfl⟩:=List.mem_map.1 hx
 have:=h y b;omega
theorem ZH{l:List Int}{i j:Int}{u:Int}(hi:0<=i/\i<len l)(b:0<=j):at' (l.set i.toNat u) j=if i=j then u else at' l j:=by
 unfold at'
 rw[List.getD_eq_getElem?_getD,List.getD_eq_getElem?_getD,List.getElem?_set]
 by_cases h:i=j
 ·subst h
  rw[if_pos U,if_pos U,if_pos (by unfold len at hi;omega)];rfl
 ·rw[if_neg Aa,if_neg h]
end Go.Eng
namespace Go.Proofs.YtnoegalemkbbbaaGreatDoor
open Go.Proofs.Tryz
open Go.Eng
theorem Aq1(n:Nd)(x:Int)(w:World)(y:len n.s<=1048576)(he: -1048576<=n.e/\n.e<=1048576)(hx: -1048576<=x/\x<=n.e):Calls prog 183 [EH n,i64 x].toArray w λ e w'=>e= .returned (str (n.s++B7 (n.e-x)))/\Ext w w':=by
 have k:=A6 n.s
 refine AE A8 func183 U ntmps183 [] [] [CU n,I x] U (BB w) A3 (λ B l=>BO 2 U U U λ h=>AT (σ:=Int) (λ i=>⟨[],[(2,ER h n)],[Z 2 (.bx 2 h 0),Z 5 (.v (str (n.s++B7 (i-x)))),Z 6 (I i)]⟩) (λ i=>x<=i/\i<=n.e) (λ i=>(n.e-i).toNat) x U (by rw[Int.sub_self,XI (Int.le_refl _),List.append_nil];rfl) ⟨Aa,hx.2⟩ ?_) U
 rintro i ⟨h0,h1⟩
 have z:=OD (i-x) Aa
 refine A1 U (λ j=>?_) (λ j=>?_)<;>simp only[zb]at j
 ·have b:n.s++B7 (i-x)++[48]=n.s++B7 (i+1-x):=by
   unfold B7
   rw[show(i+1-x).toNat=(i-x).toNat+1 by omega,List.replicate_succ',List.append_assoc]
  exact AR (i+1) U (hO:=by simp only[AN,AH,len_nil];and_intros<;>first|omega|trivial) (by rw[<-b];rfl) ⟨Aa,Aa⟩ Ag
 ·have e:i=n.e:=by omega
  subst e
  exact A2 l U U U λ w M q=>⟨rfl,q.st.low⟩
theorem Aq2(s:A0)(w:World)(W:GW s)(K:len s<=4194304):Calls prog 184 [str s].toArray w λ e w'=>e= .returned (str (PC s))/\Ext w w':=by
 have X:=A6 s
 have hls:len s=(s.length:Int):=rfl
 obtain⟨h,k⟩: ∃h,h=ints (48::s):=⟨_,rfl⟩
 have C:h.length=s.length+1:=by rw[k];unfold ints;simp
 have hln:len h=(h.length:Int):=rfl
 have L:GW (48::s):=λ b K=>by
   rcases List.mem_cons.1 K with rfl|K
   ·decide
   ·exact W b K
 have N: ∀j,0<=j->j<len h->48<=at' h j/\at' h j<=57:=λ j h0 h1=>uT L (by rw[<-k];exact RG h0 h1)
 have hex: ∃j,0<=j/\j<len h/\at' h j≠57:=⟨0,Aa,Aa,by rw[k];show((48:UInt8).toNat:Int)≠57;decide⟩
 have D:PC s=toStr (PA h.length h (len h-1)):=by unfold PC;rw[k];rw[<-k,C,show len h-1=len s by omega]
 obtain⟨R,V⟩: ∃R,R=PA h.length h (len h-1):=⟨_,rfl⟩
 rw[<-V]at D
 obtain⟨j0,O,hj1,P⟩:=hex
 refine AE A8 func184 U ntmps184 [] [] [.v (str s)] U (BB w) A3 (λ B hB=>uR 3 (a:=48::s) U (hO:=by simp only[AH,len_nil];and_intros<;>first|omega|trivial) U underlying9 underlying216 underlying5 λ b cap sp=>?_) U
 rw[<-k,show(48::s).length=h.length by simp[C]]
 refine AU (I (h.length:Nat)) U U (λ w M A=>PV.iL (AF (v:=.v (.slice (some ⟨b,0,none⟩) h.length cap)) (E:=[]) U) underlying216) <|AT (σ:=Nat×List Int×Int) (λ(f,l,i)=>⟨[],[(3,.ho (.raw b (G5 5 l sp)))],[Z 3 (.v (.slice (some ⟨b,0,none⟩) h.length cap)),Z 4 (I i)]⟩) (λ(f,l,i)=>0<=i/\i<len h/\l.length=h.length/\(∀j,0<=j->j<len h->48<=at' l j/\at' l j<=57)/\(∃j,0<=j/\j<=i/\at' l j≠57)/\PA f l i=R/\i+1<=f) (λ(f,l,i)=>f) (h.length,h,(h.length:Int)-1) U U ⟨Aa,Aa,rfl,N,⟨j0,O,Aa,P⟩,V.symm,Aa⟩ ?_
 rintro⟨f,l,i⟩ ⟨n,Q,hl,F,⟨j,G,hjb,H⟩,hg,hfu⟩
 have hit:((i.toNat:Nat):Int)=i:=by omega
 have z:i.toNat<l.length:=by omega
 have hbi:=F i n Q
 obtain⟨f,rfl⟩: ∃q,f=q+1:=⟨f-1,Aa⟩
 refine AU (.v (.pointer (some ⟨b,i.toNat,none⟩))) U U (λ w M A=>PV.P9 (AF (v:=.v (.slice (some ⟨b,0,none⟩) h.length cap)) (E:=[]) U) (AF (v:=I i) (E:=[]) U) underlying216 sizeOf5 λ _=>⟨n,Aa⟩) <|ZG 3 i.toNat U U U isAgg5 z ?_
 rw[hit]
 rw[PA]at hg
 refine A1 U (λ y=>?_) (λ y=>?_)<;>simp only[zb]at y
 ·rw[if_pos y]at hg
  have S:i≠j:=λ e=>by subst e;exact H y
  refine AU (.v (.pointer (some ⟨b,i.toNat,none⟩))) U U (λ w M A=>PV.P9 (AF (v:=.v (.slice (some ⟨b,0,none⟩) h.length cap)) (E:=[]) U) (AF (v:=I i) (E:=[]) U) underlying216 sizeOf5 λ _=>⟨n,Aa⟩) <|ZF 3 i.toNat (u:=48) U U U U sizeOf5 z <|AR (f,l.set i.toNat 48,i-1) U U ⟨Aa,Aa,by rw[List.length_set];exact hl,λ q J T=>?_,⟨j,G,Aa,?_⟩,hg,Aa⟩ (by show f<f+1;omega)
  ·rw[ZH ⟨n,by unfold len at*;omega⟩ J]
   split
   ·omega
   ·exact F q J T
  ·rw[ZH ⟨n,by unfold len at*;omega⟩ G,if_neg S];exact H
 ·rw[if_neg y]at hg
  refine AU (.v (.pointer (some ⟨b,i.toNat,none⟩))) U U (λ w M A=>PV.P9 (AF (v:=.v (.slice (some ⟨b,0,none⟩) h.length cap)) (E:=[]) U) (AF (v:=I i) (E:=[]) U) underlying216 sizeOf5 λ _=>⟨n,Aa⟩) <|ZG 3 i.toNat U U U isAgg5 z ?_
  rw[hit]
  exact AU (.v (.pointer (some ⟨b,i.toNat,none⟩))) U U (λ w M A=>PV.P9 (AF (v:=.v (.slice (some ⟨b,0,none⟩) h.length cap)) (E:=[]) U) (AF (v:=I i) (E:=[]) U) underlying216 sizeOf5 λ _=>⟨n,Aa⟩) <|ZF 3 i.toNat (u:=at' l i+1) U U U U sizeOf5 z <|uS 3 U U U (by rw[List.length_set];exact hl.symm) underlying216 underlying5 underlying9 <|A2 hB U U U λ w M A=>⟨by rw[D,<-hg];rfl,A.st.low⟩
theorem Aq3(s:A0)(w:World)(W:GW s)(T:len s<=4194304)(hx: ∃b∈s,b.toNat≠48):Calls prog 185 [str s].toArray w λ e w'=>e= .returned (str (PD s))/\Ext w w':=by
 have X:=A6 s
 have hls:len s=(s.length:Int):=rfl
 obtain⟨h,k⟩: ∃h,h=ints (s):=⟨_,rfl⟩
 have C:h.length=s.length:=by rw[k];unfold ints;simp
 have hln:len h=(h.length:Int):=rfl
 have K:GW (s):=W
 have L: ∀j,0<=j->j<len h->48<=at' h j/\at' h j<=57:=λ j h0 h1=>uT K (by rw[<-k];exact RG h0 h1)
 have hex: ∃j,0<=j/\j<len h/\at' h j≠48:=by
  obtain⟨b,T,hb2⟩:=hx
  obtain⟨j,hj,e⟩:=List.getElem_of_mem T
  refine⟨j,Aa,Aa,?_⟩
  rw[k,ints_at Aa Aa]
  unfold A4
  rw[Int.toNat_natCast,List.getD_eq_getElem?_getD,List.getElem?_eq_getElem hj,e]
  show(b.toNat:Int)≠48
  omega
 have D:PD s=toStr (PB h.length h (len h-1)):=by unfold PD;rw[k];rw[<-k,C,show len h-1=len s-1 by omega]
 obtain⟨R,V⟩: ∃R,R=PB h.length h (len h-1):=⟨_,rfl⟩
 rw[<-V]at D
 obtain⟨j0,N,hj1,O⟩:=hex
 refine AE A8 func185 U ntmps185 [] [] [.v (str s)] U (BB w) A3 (λ B hB=>uR 3 (a:=s) U U underlying9 underlying216 underlying5 λ b cap sp=>?_) U
 rw[<-k,show(s).length=h.length by simp[C]]
 refine AU (I (h.length:Nat)) U U (λ w M A=>PV.iL (AF (v:=.v (.slice (some ⟨b,0,none⟩) h.length cap)) (E:=[]) U) underlying216) <|AT (σ:=Nat×List Int×Int) (λ(f,l,i)=>⟨[],[(3,.ho (.raw b (G5 5 l sp)))],[Z 3 (.v (.slice (some ⟨b,0,none⟩) h.length cap)),Z 4 (I i)]⟩) (λ(f,l,i)=>0<=i/\i<len h/\l.length=h.length/\(∀j,0<=j->j<len h->48<=at' l j/\at' l j<=57)/\(∃j,0<=j/\j<=i/\at' l j≠48)/\PB f l i=R/\i+1<=f) (λ(f,l,i)=>f) (h.length,h,(h.length:Int)-1) U U ⟨Aa,Aa,rfl,L,⟨j0,N,Aa,O⟩,V.symm,Aa⟩ ?_
 rintro⟨f,l,i⟩ ⟨n,P,hl,F,⟨j,G,hjb,H⟩,hg,hfu⟩
 have hit:((i.toNat:Nat):Int)=i:=by omega
 have z:i.toNat<l.length:=by omega
 have hbi:=F i n P
 obtain⟨f,rfl⟩: ∃q,f=q+1:=⟨f-1,Aa⟩
 refine AU (.v (.pointer (some ⟨b,i.toNat,none⟩))) U U (λ w M A=>PV.P9 (AF (v:=.v (.slice (some ⟨b,0,none⟩) h.length cap)) (E:=[]) U) (AF (v:=I i) (E:=[]) U) underlying216 sizeOf5 λ _=>⟨n,Aa⟩) <|ZG 3 i.toNat U U U isAgg5 z ?_
 rw[hit]
 rw[PB]at hg
 refine A1 U (λ y=>?_) (λ y=>?_)<;>simp only[zb]at y
 ·rw[if_pos y]at hg
  have Q:i≠j:=λ e=>by subst e;exact H y
  refine AU (.v (.pointer (some ⟨b,i.toNat,none⟩))) U U (λ w M A=>PV.P9 (AF (v:=.v (.slice (some ⟨b,0,none⟩) h.length cap)) (E:=[]) U) (AF (v:=I i) (E:=[]) U) underlying216 sizeOf5 λ _=>⟨n,Aa⟩) <|ZF 3 i.toNat (u:=57) U U U U sizeOf5 z <|AR (f,l.set i.toNat 57,i-1) U U ⟨Aa,Aa,by rw[List.length_set];exact hl,λ q J S=>?_,⟨j,G,Aa,?_⟩,hg,Aa⟩ (by show f<f+1;omega)
  ·rw[ZH ⟨n,by unfold len at*;omega⟩ J]
   split
   ·omega
   ·exact F q J S
  ·rw[ZH ⟨n,by unfold len at*;omega⟩ G,if_neg Q];exact H
 ·rw[if_neg y]at hg
  refine AU (.v (.pointer (some ⟨b,i.toNat,none⟩))) U U (λ w M A=>PV.P9 (AF (v:=.v (.slice (some ⟨b,0,none⟩) h.length cap)) (E:=[]) U) (AF (v:=I i) (E:=[]) U) underlying216 sizeOf5 λ _=>⟨n,Aa⟩) <|ZG 3 i.toNat U U U isAgg5 z ?_
  rw[hit]
  exact AU (.v (.pointer (some ⟨b,i.toNat,none⟩))) U U (λ w M A=>PV.P9 (AF (v:=.v (.slice (some ⟨b,0,none⟩) h.length cap)) (E:=[]) U) (AF (v:=I i) (E:=[]) U) underlying216 sizeOf5 λ _=>⟨n,Aa⟩) <|ZF 3 i.toNat (u:=at' l i-1) U U U U sizeOf5 z <|uS 3 U U U (by rw[List.length_set];exact hl.symm) underlying216 underlying5 underlying9 <|A2 hB U U U λ w M A=>⟨by rw[D,<-hg];rfl,A.st.low⟩
end Go.Proofs.YtnoegalemkbbbaaGreatDoor
