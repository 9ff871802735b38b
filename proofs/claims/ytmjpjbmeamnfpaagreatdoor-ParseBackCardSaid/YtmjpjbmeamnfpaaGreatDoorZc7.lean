/-
  Parts EngP Pf Eqt Opf Xe Xf, put together and made short by wip/py/merge.py (mini.py).
-/
import Derived.Test.YtmjpjbmeamnfpaaGreatDoorZc4
import Derived.Test.YtmjpjbmeamnfpaaGreatDoorZc6
import Derived.Laws.BitsLemmas
import Derived.Test.YtmjpjbmeamnfpaaGreatDoorZc3
import Derived.Test.YtmjpjbmeamnfpaaGreatDoorProg
import Derived.Test.YtmjpjbmeamnfpaaGreatDoorZc5
import Derived.Deep.Slices
import Derived.Carry
import Derived.Test.YtmjpjbmeamnfpaaGreatDoorZc0
set_option linter.unusedVariables false
set_option linter.unusedSimpArgs false
namespace Go.Eng
open Go.RowKit
inductive PR (α:Type)where
 |ok (x:α) (j:Int)
 |er (e p:Int)
abbrev NS(T:TypeId)(e p:Int):PanicEntry:= { v:=.iface T (.agg #[i64 e,i64 p]),recovered:=false}
def UU{α:Type}(w0:World)(M0 M:Mem)(Rs:List HO)(T:TypeId)(F:α->Int->Value->Mem->World->Prop)(r:PR α):Ending->World->Prop:=λ e w'=>
 match r with
 | .ok x j=> ∃v M',e= .returned v/\F x j v M' w'/\M.le M'
 | .er ec p=> ∃M',e= .panicked [NS T ec p]/\St w0 M0 w' M' Rs/\M.le M'
section
variable {P:Program} {α:Type} {w0 w:World} {M0 M M':Mem} {Rs:List HO} {T:TypeId} {F:α->Int->Value->Mem->World->Prop} {r:PR α}
theorem UU.ok {x:α}{j:Int}{v:Value}(h:r= .ok x j)(hf:F x j v M' w)(hle:M.le M'):UU w0 M0 M Rs T F r (.returned v) w:=by
 subst h;exact⟨v,M',rfl,hf,hle⟩
theorem UU.er {ec p:Int}(h:r= .er ec p)(hS:St w0 M0 w M' Rs)(hle:M.le M'):UU w0 M0 M Rs T F r (.panicked [NS T ec p]) w:=by
 subst h;exact⟨M',rfl,hS,hle⟩
theorem Ends.p {fn:Func}{R:Ending->World->Prop}{Q:Exit->Act->World->Prop}{N:Nat}{L:Env}{ch:List PanicEntry}(E:Ends P fn R Q)(h:R (.panicked ch) w): ∀a,AK a N L->Q (.panic ch) a w:=λ a hs=>E.all _ _ _ ⟨hs.CZ,h⟩
variable {ops:Array Oper} {Q:Exit->Act->World->Prop} {N:Nat} {rest:List Oper} {L:Env} {ty:TypeId} {ps:String} {af:Array Edge} {tys:Array TypeId}
theorem RL.panic {d:Option Tmp}{x:Operand}{t:TypeId}{v:Value}(hx:A8 L true x (.iface t v))(h: ∀a,AK a N L->Q (.panic [{ v:=.iface t v,recovered:=false}]) a w):RL P ops Q N (⟨d,.panic x,ty,ps,af,none⟩::rest) L w:=by
 intro a hs
 refine wpList_plain U λ K hK=>?_
 have key:(execOp a.eval ⟨d,.panic x,ty,ps,af,none⟩).run P w= .halt (.panic (.iface t v)) w:=by
  simp only[execOp,hx a N hs U];rw[Sem.run_bind,run_panic_iface];rfl
 simp only[Oper.wp,key,Oper.upon_panic]
 exact h a hs
end
end Go.Eng
namespace Go.Eng
open Go.RowKit
structure Tm where
 op:Int
 many:Int
 name:A1
 s:A1
 n:Int
 c:Nd
deriving Inhabited,DecidableEq
def Tm.cells (t:Tm):List Value:=[i64 t.op,i64 t.many,str t.name,str t.s,i64 t.n,i64 t.c.kind,i64 t.c.many,str t.c.name,str t.c.s,.bool t.c.neg,i64 t.c.e]
theorem Tm.BI (t:Tm):t.cells.length=11:=rfl
abbrev Fl:=List Tm
def AH(o:Int):Tm:=⟨o,0,[],[],0,AO⟩
inductive Tf where
 |mk (t:Tm) (ps:List Tf)
mutual
def Tf.flat:Tf->Fl
 | .mk t ps=> { t with many:=len ps}::B1 ps
def B1:List Tf->Fl
 |[]=>[]
 |x::l=>x.flat++B1 l
end
instance:Inhabited Tf:=⟨.mk default []⟩
def Tf.t:Tf->Tm
 | .mk t _=>t
def Tf.ps:Tf->List Tf
 | .mk _ ps=>ps
def Tf.named (n:A1):Tf->Tf
 | .mk t ps=>.mk { t with name:=n} ps
def EL:Tf->Tf->Tf
 | .mk t [a,b],g=>if t.op=4 then .mk (AH 4) [a,EL b g]else .mk (AH 4) [.mk t [a,b],g]
 |x,g=>.mk (AH 4) [x,g]
def DW:List Tf->Tf
 |[]=>default
 |[x]=>x
 |x::y::l=>EL x (DW (y::l))
structure Sp where
 part:Bool
 name:A1
 n:Int
deriving Inhabited,DecidableEq
def Sp.cells (x:Sp):List Value:=[.bool x.part,str x.name,i64 x.n]
def PW(s:A1):Bool:=s != []&&AY s==s
def FK(q:A1->A1)(x:Sp):A1:=
 if x.part then [91]++Lib.itoa x.n++[93]else if PW x.name then [46]++x.name else [46]++q x.name
def JJ(q:A1->A1)(p:List Sp):A1:=(if p=[]\/(A2 p 0).part=true then [46]else [])++(p.map (FK q)).flatten
def AL(l:List Tk)(i:Int)(m:A1):Bool:=(A2 l i).kind==1&&(A2 l i).s==m
def DF(l:List Tk)(i:Int)(w:A1):Bool:=(A2 l i).kind==2&&(A2 l i).s==w
def CG{α:Type}(l:List Tk)(i e:Int):PR α:=.er e (A2 l i).pos
def PR.bind {α β:Type}(r:PR α)(k:α->Int->PR β):PR β:=match r with
 | .er c p=>.er c p
 | .ok x j=>k x j
def BV(l:List Tk)(i:Int)(m:A1):PR Unit:=if AL l i m then .ok () (i+1)else CG l i 1
def F2(l:List Tk)(d i:Int)(m:A1):PR Unit:=if AL l i m&&decide (64<=d)then CG l i 3 else BV l i m
def D1{α:Type}(l:List Tk)(d i:Int)(x:Int->PR α):PR α:=(F2 l d i [40]).bind λ _ j=>(x j).bind λ y k=>(BV l k [41]).bind λ _ m=>.ok y m
def NT(s:A1):Int:=s.foldl (λ n c=>10*n+((c.toNat:Int)-48)) 0
def KJ(t:Tk):Int:=NT (t.c.s++List.replicate t.c.e.toNat 48)
def FL(l:List Tk)(i:Int):PR Int:=
 if(A2 l i).kind≠5\/(A2 l i).c.neg=true\/(A2 l i).c.e<0\/7<len (A2 l i).c.s+(A2 l i).c.e then CG l i 1
 else if 1000000<KJ (A2 l i)then CG l i 1 else .ok (KJ (A2 l i)) (i+1)
def HK(l:List Tk)(i:Int):PR Tf:=
 if(A2 l i).kind=3 then .ok (.mk { AH 1 with s:=(A2 l i).s} []) (i+1)
 else(FL l (i+1)).bind λ n j=>
  if AL l j [58]then(BV l (j+1) [93]).bind λ _ k=>.ok (.mk { AH 3 with n:=n} []) k
  else(BV l j [93]).bind λ _ k=>.ok (.mk { AH 2 with n:=n} []) k
def I7:Nat->List Tk->List Tf->Int->PR Tf
 |0,l,_,i=>CG l i 1
 |f+1,l,xs,i=>if(A2 l i).kind=3\/AL l i [91]=true then(HK l i).bind λ x j=>I7 f l (xs++[x]) j else .ok (DW xs) i
def GX(dot:Bool):Nat->List Tk->List Sp->Int->PR (List Sp)
 |0,l,_,i=>CG l i 1
 |f+1,l,xs,i=>
  if AL l i [91]=true\/(A2 l i).kind=3/\(dot=false\/xs≠[])then
   if len xs=20 then CG l i 1
   else if(A2 l i).kind=1 then(FL l (i+1)).bind λ n j=>(BV l j [93]).bind λ _ k=>GX dot f l (xs++[⟨true,[],n⟩]) k
   else GX dot f l (xs++[⟨false,(A2 l i).s,0⟩]) (i+1)
  else .ok xs i
def G5(q:A1->A1)(l:List Tk)(i:Int):PR A1:=
 if AL l i [46]then(GX true l.length l [] (i+1)).bind λ xs j=>.ok (JJ q xs) j
 else if(A2 l i).kind≠3 then CG l i 1 else(GX false l.length l [] i).bind λ xs j=>.ok (JJ q xs) j
def LD:A1:=[116,114,117,101]
def LF:A1:=[102,97,108,115,101]
def LG:A1:=[110,117,108,108]
def GY(l:List Tk)(i:Int):PR Nd:=
 if(A2 l i).kind=5 then .ok (A2 l i).c (i+1)
 else if(A2 l i).kind=4 then .ok ⟨4,0,[],(A2 l i).s,false,0⟩ (i+1)
 else if(A2 l i).kind=2/\(A2 l i).s∈[LG,LF,LD]then .ok ⟨([LG,LF,LD].idxOf (A2 l i).s:Nat),0,[],[],false,0⟩ (i+1)
 else CG l i 1
def CH:List A1:=[[61,61],[33,61],[60],[60,61],[62],[62,61]]
def MO(q:A1->A1)(l:List Tk)(i:Int):PR Tf:=(G5 q l i).bind λ s j=>
 if(A2 l j).kind=1/\(A2 l j).s∈CH then(GY l (j+1)).bind λ c k=>.ok (.mk ⟨16,0,[],s,(CH.idxOf (A2 l j).s:Nat),c⟩ []) k
 else CG l j 1
def IW:A1:=[111,114]
def IX:A1:=[97,110,100]
def HL:A1:=[110,111,116]
def I8:A1:=[116,111,95,101,110,116,114,105,101,115]
def IY:A1:=[102,114,111,109,95,101,110,116,114,105,101,115]
def JK:A1:=[114,101,118,101,114,115,101]
def PX:A1:=[103,114,111,117,112,95,98,121]
def RY:A1:=[115,111,114,116,95,98,121]
def UW:A1:=[100,101,108]
def YC:A1:=[109,97,112]
def YD:A1:=[109,97,112,95,118,97,108,117,101,115]
def YE:A1:=[119,105,116,104,95,101,110,116,114,105,101,115]
def YF:A1:=[115,101,108,101,99,116]
def JL(w:A1):Option Int:=if w=PX then some 12 else if w=RY then some 13 else if w=UW then some 15 else none
def LH(w:A1):Option Int:=if w=I8 then some 10 else if w=IY then some 11 else if w=JK then some 14 else none
mutual
def EM(q:A1->A1):Nat->List Tk->Int->Int->PR Tf
 |0,l,_,i=>CG l i 1
 |f+1,l,d,i=>(EC q f l d i).bind λ x j=>HM q f l d [x] j
def HM(q:A1->A1):Nat->List Tk->Int->List Tf->Int->PR Tf
 |0,l,_,_,i=>CG l i 1
 |f+1,l,d,xs,i=>if AL l i [124]then(EC q f l d (i+1)).bind λ x j=>HM q f l d (xs++[x]) j else .ok (DW xs) i
def EC(q:A1->A1):Nat->List Tk->Int->Int->PR Tf
 |0,l,_,i=>CG l i 1
 |f+1,l,d,i=>(GZ q f l d i).bind λ x j=>I7 l.length l (if AL l i [46]&&AL l j [91]then []else [x]) j
def GZ(q:A1->A1):Nat->List Tk->Int->Int->PR Tf
 |0,l,_,i=>CG l i 1
 |f+1,l,d,i=>
  if AL l i [46]then .ok (.mk (AH 0) []) (i+1)
  else if(A2 l i).kind=3 then .ok (.mk { AH 1 with s:=(A2 l i).s} []) (i+1)
  else if(A2 l i).kind=2 then G6 q f l d i
  else if AL l i [123]then(F2 l d i [123]).bind λ _ j=>IZ q f l (d+1) [] j
  else if AL l i [91]then(F2 l d i [91]).bind λ _ j=>J0 q f l (d+1) [] j
  else D1 l d i (EM q f l (d+1))
def G6(q:A1->A1):Nat->List Tk->Int->Int->PR Tf
 |0,l,_,i=>CG l i 1
 |f+1,l,d,i=>match LH (A2 l i).s with
  |some o=>.ok (.mk (AH o) []) (i+1)
  |none=>match JL (A2 l i).s with
   |some o=>D1 l d (i+1) λ j=>(G5 q l j).bind λ s k=>.ok (.mk { AH o with s:=s} []) k
   |none=>
    if(A2 l i).s=YC then(D1 l d (i+1) (EM q f l (d+1))).bind λ x j=>.ok (.mk (AH 5) [x]) j
    else if(A2 l i).s=YD then(D1 l d (i+1) (EM q f l (d+1))).bind λ x j=>.ok (.mk (AH 6) [x]) j
    else if(A2 l i).s=YE then(D1 l d (i+1) (EM q f l (d+1))).bind λ x j=>.ok (DW [.mk (AH 10) [],.mk (AH 5) [x],.mk (AH 11) []]) j
    else if(A2 l i).s=YF then(D1 l d (i+1) (G7 q f l (d+1))).bind λ x j=>.ok (.mk (AH 7) [x]) j
    else CG l i 1
def IZ(q:A1->A1):Nat->List Tk->Int->List Tf->Int->PR Tf
 |0,l,_,_,i=>CG l i 1
 |f+1,l,d,xs,i=>
  if AL l i [125]then .ok (.mk (AH 8) xs) (i+1)
  else(if xs.isEmpty then .ok () i else BV l i [44]).bind λ _ j=>
   if(A2 l j).kind≠2/\(A2 l j).kind≠4\/(A2 l j).s∈xs.map (λ x=>x.t.name)then CG l j 1
   else(BV l (j+1) [58]).bind λ _ k=>(EC q f l d k).bind λ x m=>IZ q f l d (xs++[x.named (A2 l j).s]) m
def J0(q:A1->A1):Nat->List Tk->Int->List Tf->Int->PR Tf
 |0,l,_,_,i=>CG l i 1
 |f+1,l,d,xs,i=>
  if AL l i [93]then .ok (.mk (AH 9) xs) (i+1)
  else(if xs.isEmpty then .ok () i else BV l i [44]).bind λ _ j=>(EC q f l d j).bind λ x m=>J0 q f l d (xs++[x]) m
def G7(q:A1->A1):Nat->List Tk->Int->Int->PR Tf
 |0,l,_,i=>CG l i 1
 |f+1,l,d,i=>(J1 q f l d i).bind λ x j=>JM q f l d x j
def JM(q:A1->A1):Nat->List Tk->Int->Tf->Int->PR Tf
 |0,l,_,_,i=>CG l i 1
 |f+1,l,d,x,i=>if DF l i IW then(J1 q f l d (i+1)).bind λ y j=>JM q f l d (.mk (AH 18) [x,y]) j else .ok x i
def J1(q:A1->A1):Nat->List Tk->Int->Int->PR Tf
 |0,l,_,i=>CG l i 1
 |f+1,l,d,i=>(GM q f l d i).bind λ x j=>JN q f l d x j
def JN(q:A1->A1):Nat->List Tk->Int->Tf->Int->PR Tf
 |0,l,_,_,i=>CG l i 1
 |f+1,l,d,x,i=>if DF l i IX then(GM q f l d (i+1)).bind λ y j=>JN q f l d (.mk (AH 17) [x,y]) j else .ok x i
def GM(q:A1->A1):Nat->List Tk->Int->Int->PR Tf
 |0,l,_,i=>CG l i 1
 |f+1,l,d,i=>
  if AL l i [40]=false then MO q l i
  else(F2 l d i [40]).bind λ _ j=>(G7 q f l (d+1) j).bind λ x k=>
   (if AL l k [124]then(if DF l (k+1) HL then .ok (.mk (AH 19) [x]) (k+2)else CG l (k+1) 1)else .ok x k).bind λ y m=>(BV l m [41]).bind λ _ n=>.ok y n
end
def RZ(q:A1->A1)(l:List Tk):Fl×Int×Int:=match EM q (8*l.length+8) l 0 0 with
 | .er c p=>([],p,c)
 | .ok x j=>if(A2 l j).kind=6 then(x.flat,0,0)else([],(A2 l j).pos,1)
def J2(q:A1->A1)(s:A1):Fl×Int×Int:=if(CF s).2.2≠0 then([],(CF s).2.1,(CF s).2.2)else RZ q (CF s).1
end Go.Eng
set_option maxRecDepth 100000
namespace Go.Proofs.YtmjpjbmeamnfpaaGreatDoor
open Go.Eng
theorem fQ:Tryz.prog.underlying 51=some (.struct (Tryz.prog.fieldsOf 51)):=by kernel_rfl
theorem sS:(Tryz.prog.fieldsOf 51).toList=[⟨"Op",3,0,false,"","",0⟩,⟨"Many",3,1,false,"","",8⟩,⟨"Name",9,2,false,"","",16⟩,⟨"S",9,3,false,"","",32⟩,⟨"N",3,4,false,"","",48⟩,⟨"C",46,5,false,"","",56⟩]:=by kernel_rfl
theorem fR(d:Nat)(a b:Tm)(w:World):(Op.equalIn (d+1+1+1) 51 (.agg (Tm.cells a).toArray) (.agg (Tm.cells b).toArray)).run Tryz.prog w= .ok (decide (a=b)) w:=by
 rw[run_equalIn_agg w _ _ _ _ fQ Tryz.stoodInHeld51,sS]
 rw[JE (P:=Tryz.prog) (w:=w) (xs:=(Tm.cells a).toArray) (ys:=(Tm.cells b).toArray) (f:=⟨"Op",3,0,false,"","",0⟩) (by decide) (show(part 3 (Tm.cells a).toArray 0).run Tryz.prog w= .ok (i64 ((a).op)) w by kernel_rfl) (show(part 3 (Tm.cells b).toArray 0).run Tryz.prog w= .ok (i64 ((b).op)) w by kernel_rfl) (PG Tryz.underlying3 w (d+1) ((a).op) ((b).op))]
 rw[JE (P:=Tryz.prog) (w:=w) (xs:=(Tm.cells a).toArray) (ys:=(Tm.cells b).toArray) (f:=⟨"Many",3,1,false,"","",8⟩) (by decide) (show(part 3 (Tm.cells a).toArray 1).run Tryz.prog w= .ok (i64 ((a).many)) w by kernel_rfl) (show(part 3 (Tm.cells b).toArray 1).run Tryz.prog w= .ok (i64 ((b).many)) w by kernel_rfl) (PG Tryz.underlying3 w (d+1) ((a).many) ((b).many))]
 rw[JE (P:=Tryz.prog) (w:=w) (xs:=(Tm.cells a).toArray) (ys:=(Tm.cells b).toArray) (f:=⟨"Name",9,2,false,"","",16⟩) (by decide) (show(part 9 (Tm.cells a).toArray 2).run Tryz.prog w= .ok (str ((a).name)) w by kernel_rfl) (show(part 9 (Tm.cells b).toArray 2).run Tryz.prog w= .ok (str ((b).name)) w by kernel_rfl) (U7 Tryz.underlying9 w (d+1) ((a).name) ((b).name))]
 rw[JE (P:=Tryz.prog) (w:=w) (xs:=(Tm.cells a).toArray) (ys:=(Tm.cells b).toArray) (f:=⟨"S",9,3,false,"","",32⟩) (by decide) (show(part 9 (Tm.cells a).toArray 3).run Tryz.prog w= .ok (str ((a).s)) w by kernel_rfl) (show(part 9 (Tm.cells b).toArray 3).run Tryz.prog w= .ok (str ((b).s)) w by kernel_rfl) (U7 Tryz.underlying9 w (d+1) ((a).s) ((b).s))]
 rw[JE (P:=Tryz.prog) (w:=w) (xs:=(Tm.cells a).toArray) (ys:=(Tm.cells b).toArray) (f:=⟨"N",3,4,false,"","",48⟩) (by decide) (show(part 3 (Tm.cells a).toArray 4).run Tryz.prog w= .ok (i64 ((a).n)) w by kernel_rfl) (show(part 3 (Tm.cells b).toArray 4).run Tryz.prog w= .ok (i64 ((b).n)) w by kernel_rfl) (PG Tryz.underlying3 w (d+1) ((a).n) ((b).n))]
 rw[JE (P:=Tryz.prog) (w:=w) (xs:=(Tm.cells a).toArray) (ys:=(Tm.cells b).toArray) (f:=⟨"C",46,5,false,"","",56⟩) (by decide) (show(part 46 (Tm.cells a).toArray 5).run Tryz.prog w= .ok (.agg (Nd.cells ((a).c)).toArray) w by kernel_rfl) (show(part 46 (Tm.cells b).toArray 5).run Tryz.prog w= .ok (.agg (Nd.cells ((b).c)).toArray) w by kernel_rfl) (eO d ((a).c) ((b).c) w)]
 have ht:(.ok true w:Result Bool)= .ok (decide True) w:=rfl
 rw[dN,ht]
 simp only[dO]
 have hp:((a).op=(b).op/\(a).many=(b).many/\(a).name=(b).name/\(a).s=(b).s/\(a).n=(b).n/\(a).c=(b).c/\True)↔a=b:=by cases a;cases b;simp
 rw[decide_eq_decide.2 hp]
theorem MP(x y:Operand)(a b:Tm)(w:World):(do eqGuard .eql 51 x y (.agg (Tm.cells a).toArray) (.agg (Tm.cells b).toArray);binOp .eql 51 (.agg (Tm.cells a).toArray) (.agg (Tm.cells b).toArray):Sem Value).run Tryz.prog w= .ok (.bool (decide (a=b))) w:=dP x y w Tryz.eqGuardType51 (fR 9997 a b w)
theorem sT(x y:Operand)(a b:Tm)(w:World):(do eqGuard .neq 51 x y (.agg (Tm.cells a).toArray) (.agg (Tm.cells b).toArray);binOp .neq 51 (.agg (Tm.cells a).toArray) (.agg (Tm.cells b).toArray):Sem Value).run Tryz.prog w= .ok (.bool (!(decide (a=b)))) w:=pX x y w Tryz.eqGuardType51 (fR 9997 a b w)
end Go.Proofs.YtmjpjbmeamnfpaaGreatDoor
set_option maxRecDepth 100000
namespace Go.Proofs.YtmjpjbmeamnfpaaGreatDoor
open Go.ChangeShapes Go.WideShapes Go.ChangeAt Go.RowKit Go.Eng Go.Deep
def UX(W:World):Mem:=λ b o=>W.cell? ⟨b,o,none⟩
theorem sU(W:World):Sat W (UX W):=⟨λ _ _ _ h=>h⟩
theorem laidOut:laidOutB Tryz.prog=true:=by kernel_rfl
section
variable {H:Type} {enc:TypeId×Value->H} {w:World} {base:Nat} {sp:Nat->Bool} {hd:Bool}
theorem JO{fs:Array Field}{n:Nat}{cs:List Value}{xs:List (DataW H×List MemPlace)}(hf: ∀(i:Nat) (f:Field),fs[i]? =some f->DataW.trod enc Tryz.prog w base sp hd n f.type ((cs.drop f.offset).take (Tryz.prog.cellsOf f.type))=xs[i]?)(hx:xs.length=fs.size)
  {i t o c:Nat} (h:(fs[i]?).map (λ f=>(f.type,f.offset,Tryz.prog.cellsOf f.type))=some (t,o,c)): ∃x,DataW.trod enc Tryz.prog w base sp hd n t ((cs.drop o).take c)=some x:=by
 obtain⟨f,h1,h2⟩:=Option.map_eq_some_iff.1 h
 have h3:=hf i f h1
 have hlt:i<xs.length:=by rw[hx];exact(Array.getElem?_eq_some_iff.1 h1).1
 rw[List.getElem?_eq_getElem hlt]at h3
 simp only[Prod.mk.injEq]at h2
 obtain⟨e1,e2,e3⟩:=h2
 rw[e3,e2,e1]at h3
 exact⟨_,h3⟩
theorem PY{n:Nat}{cs:List Value}{c:Value}(hc:cs=[c])(h: ∃x,DataW.trod enc Tryz.prog w base sp hd n 3 cs=some x): ∃z,c=i64 z:=by
 obtain⟨x,h⟩:=h
 obtain⟨z,h1,_⟩:=DataW.trod_int Tryz.underlying3 h
 rw[hc]at h1
 exact⟨z,(List.cons.inj h1).1⟩
theorem UY{n:Nat}{cs:List Value}{c:Value}(hc:cs=[c])(h: ∃x,DataW.trod enc Tryz.prog w base sp hd n 9 cs=some x): ∃s:A1,c=str s/\len s<=9223372036854775807:=by
 obtain⟨x,h⟩:=h
 obtain⟨s,h1,_,h2⟩:=DataW.trod_string Tryz.underlying9 h
 rw[hc]at h1
 refine⟨s.data.toList,(List.cons.inj h1).1,?_⟩
 unfold len
 have:s.data.toList.length=s.size:=Array.length_toList
 have h3:s.size<=9223372036854775807:=h2
 rw[this];omega
theorem sV{n:Nat}{cs:List Value}{c:Value}(hc:cs=[c])(h: ∃x,DataW.trod enc Tryz.prog w base sp hd n 4 cs=some x): ∃b,c= .bool b:=by
 obtain⟨x,h⟩:=h
 obtain⟨b,h1,_⟩:=DataW.trod_bool Tryz.underlying4 h
 rw[hc]at h1
 exact⟨b,(List.cons.inj h1).1⟩
theorem sW{n:Nat}{cs:List Value}(h: ∃x,DataW.trod enc Tryz.prog w base sp hd n 46 cs=some x): ∃nd:Nd,cs=nd.cells/\len nd.s<=9223372036854775807:=by
 obtain⟨x,h⟩:=h
 obtain⟨xs,k,_,_,hl,hxl,hf⟩:=DataW.trod_struct eN h
 have hl6:cs.length=6:=hl.trans (by kernel_rfl)
 match cs,hl6 with
 |[c0,c1,c2,c3,c4,c5],_=>
  obtain⟨z0,rfl⟩:=PY (c:=c0) rfl (JO hf hxl (i:=0) (t:=3) (o:=0) (c:=1) (by kernel_rfl))
  obtain⟨z1,rfl⟩:=PY (c:=c1) rfl (JO hf hxl (i:=1) (t:=3) (o:=1) (c:=1) (by kernel_rfl))
  obtain⟨s2,rfl,_⟩:=UY (c:=c2) rfl (JO hf hxl (i:=2) (t:=9) (o:=2) (c:=1) (by kernel_rfl))
  obtain⟨s3,rfl,h3⟩:=UY (c:=c3) rfl (JO hf hxl (i:=3) (t:=9) (o:=3) (c:=1) (by kernel_rfl))
  obtain⟨b4,rfl⟩:=sV (c:=c4) rfl (JO hf hxl (i:=4) (t:=4) (o:=4) (c:=1) (by kernel_rfl))
  obtain⟨z5,rfl⟩:=PY (c:=c5) rfl (JO hf hxl (i:=5) (t:=3) (o:=5) (c:=1) (by kernel_rfl))
  exact⟨⟨z0,z1,s2,s3,b4,z5⟩,rfl,h3⟩
theorem sX{n:Nat}{cs:List Value}(h: ∃x,DataW.trod enc Tryz.prog w base sp hd n 51 cs=some x): ∃t:Tm,cs=t.cells:=by
 obtain⟨x,h⟩:=h
 obtain⟨xs,k,_,_,hl,hxl,hf⟩:=DataW.trod_struct fQ h
 have hl11:cs.length=11:=hl.trans (by kernel_rfl)
 match cs,hl11 with
 |[c0,c1,c2,c3,c4,c5,c6,c7,c8,c9,c10],_=>
  obtain⟨z0,rfl⟩:=PY (c:=c0) rfl (JO hf hxl (i:=0) (t:=3) (o:=0) (c:=1) (by kernel_rfl))
  obtain⟨z1,rfl⟩:=PY (c:=c1) rfl (JO hf hxl (i:=1) (t:=3) (o:=1) (c:=1) (by kernel_rfl))
  obtain⟨s2,rfl,_⟩:=UY (c:=c2) rfl (JO hf hxl (i:=2) (t:=9) (o:=2) (c:=1) (by kernel_rfl))
  obtain⟨s3,rfl,_⟩:=UY (c:=c3) rfl (JO hf hxl (i:=3) (t:=9) (o:=3) (c:=1) (by kernel_rfl))
  obtain⟨z4,rfl⟩:=PY (c:=c4) rfl (JO hf hxl (i:=4) (t:=3) (o:=4) (c:=1) (by kernel_rfl))
  obtain⟨nd,hn,_⟩:=sW (JO hf hxl (i:=5) (t:=46) (o:=5) (c:=6) (by kernel_rfl))
  refine⟨⟨z0,z1,s2,s3,z4,nd⟩,?_⟩
  have hn':[c5,c6,c7,c8,c9,c10]=nd.cells:=hn
  unfold Nd.cells at hn'
  unfold Tm.cells
  simp only[List.cons.injEq,and_true]at hn' ⊢
  obtain⟨rfl,rfl,rfl,rfl,rfl,rfl⟩:=hn'
  simp
end
theorem sY{H:Type}{enc:TypeId×Value->H}{W:World}{r:Reach}{b0:Nat}{v:Value}{d:DataW H}{ps:List MemPlace}(hval:Value.okWide Tryz.prog W r b0 23 v)(h:DataW.Trod enc Tryz.prog W 0 (λ _=>true) true 23 v d ps):
  ∃l:Fl,Sl (UX W) 11 l.length v (l.flatMap Tm.cells):=by
 obtain⟨a0,n0,c0,rfl⟩:=okWide_slice Tryz.underlying23 hval
 obtain⟨fuel,h⟩:=h
 rcases open_slice Tryz.underlying23 h with⟨h1,_⟩|⟨a,ln,cap,m,n,D,Pl,h1,_,hl,hm,hmm,_,hx⟩
 ·simp only[Value.cells,List.cons.injEq,Value.slice.injEq,and_true]at h1
  obtain⟨rfl,rfl,rfl⟩:=h1
  exact⟨[],Sl.nil _ 11⟩
 ·simp only[Value.cells,List.cons.injEq,Value.slice.injEq,and_true]at h1
  obtain⟨rfl,rfl,rfl⟩:=h1
  have ce:Tryz.prog.cellsOf 51=11:=by kernel_rfl
  have each: ∀i,i<n0-> ∃t:Tm,∀j,j<11->W.cell? ((a.add (i*11)).add j)=t.cells[j]?:=by
   intro i hi
   have him:i<m:=by rw[hmm,if_pos U];omega
   obtain⟨cs',h2,h3⟩:=hx i him
   rw[ce]at h2
   obtain⟨_,_,hcell⟩:=World.cells?_some h2
   obtain⟨t,rfl⟩:=sX ⟨_,h3⟩
   exact⟨t,hcell⟩
  obtain⟨q,hq⟩:=choose_lt each
  have hlen:((List.range n0).map q).length=n0:=by simp
  refine⟨(List.range n0).map q,by rw[E5 Tm.cells 11 Tm.BI],some a,c0,by rw[hlen],by rw[hlen];exact hl,hm,λ hn=>?_⟩
  ·rw[hlen]at hn
   have hsp:a.spot=none:=by
    have h0:=hq 0 hn 0 (by omega)
    rw[Nat.zero_mul]at h0
    have e:(a.add 0).add 0=a:=rfl
    rw[e]at h0
    cases hs:a.spot with
    |none=>rfl
    |some x=>
     unfold World.cell? at h0
     rw[hs]at h0
     split at h0<;>simp[Tm.cells]at h0
   obtain⟨b,o,spot⟩:=a
   have hsp:spot=none:=hsp
   subst hsp
   refine⟨b,o,rfl,λ j hj=>?_⟩
   rw[E5 Tm.cells 11 Tm.BI,hlen]at hj
   have hi:j/11<n0:=by omega
   have hr:j%11<11:=by omega
   have h1:=hq (j/11) hi (j%11) hr
   rw[GU,GU]at h1
   have hj':o+j/11*11+j%11=o+j:=by omega
   rw[hj']at h1
   have h2:=U4 Tm.cells 11 Tm.BI ((List.range n0).map q) (j/11) (j%11) (by rw[hlen];exact hi) hr
   rw[show j/11*11+j%11=j from by omega]at h2
   unfold UX
   rw[h1,h2]
   simp
end Go.Proofs.YtmjpjbmeamnfpaaGreatDoor
namespace Go.Eng
open Go.RowKit
structure Kn:Type 1 where
 {α:Type}
 [inh:Inhabited α]
 v:Value
 sz:Nat
 l:List α
 f:α->List Value
 g:Mem->Prop
 hg: ∀M M',M.le M'->g M->g M'
abbrev kn{α:Type}[Inhabited α](v:Value)(sz:Nat)(l:List α)(f:α->List Value):Kn:=⟨v,sz,l,f,λ _=>True,λ _ _ _ _=>trivial⟩
structure Kn.ok (M:Mem) (k:Kn):Prop where
 sl:Sl M k.sz k.l.length k.v (k.l.flatMap k.f)
 sz: ∀x,(k.f x).length=k.sz
 more:k.g M
theorem Kn.ok.mono {M M':Mem}{k:Kn}(h:k.ok M)(hm:M.le M'):k.ok M':=⟨h.sl.mono hm,h.sz,k.hg _ _ hm h.more⟩
inductive XV where
 |v (x:Value)
 |sl (k:Nat) (x:Value)
 |el (k:Nat) (x:Value) (sz:Nat) (i:Int) (j:Nat)
 |bx (k b o:Nat)
 |ag (cs:List XV)
 |tu (vs:List XV)
def XV.d0:XV->Value
 | .v x=>x
 | .sl _ x=>x
 | .el _ x sz i j=>.pointer (some ⟨sb x,so x+i.toNat*sz+j,none⟩)
 | .bx _ b o=>.pointer (some ⟨b,o,none⟩)
 |_=>undef
def XV.d1:XV->Value
 | .ag cs=>.agg (cs.map XV.d0).toArray
 |x=>x.d0
def XV.d:XV->Value
 | .tu vs=>.tuple (vs.map XV.d1).toArray
 |x=>x.d1
inductive Gd where
 |t
 |g (b:Bool)
def Gd.d:Gd->Bool
 | .t=>true
 | .g b=>b
abbrev XE:=List (Nat×Gd×XV)
def XE.d (L:XE):Env:=L.map λ x=>(x.1,x.2.1.d,x.2.2.d)
def BL:XE->Nat->Option (Gd×XV)
 |[],_=>none
 |(t,g,v)::L,k=>match Nat.beq t k with
  |true=>some (g,v)
  |false=>BL L k
theorem HN: ∀ {L:XE} {k:Nat} {g:Gd} {v:XV},BL L k=some (g,v)->look L.d k=some (g.d,v.d)
 |[],_,_,_,h=>by cases h
 |(t,g',v')::L,k,g,v,h=>by
  unfold BL at h
  show look ((t,g'.d,v'.d)::XE.d L) k=_
  unfold look
  split at h<;>rename_i e<;>rw[e]
  ·cases h;rfl
  ·exact HN h
inductive Ck where
 |b (x y:Bool)
 |n (x y:Nat)
 |v (x y:Value)
def Ck.holds:Ck->Prop
 | .b x y=>x=true->y=true
 | .n x y=>x=y
 | .v x y=>x=y
def Ck.diag:Ck->Ck
 | .b x _=>.b x x
 | .n x _=>.n x x
 | .v x _=>.v x x
abbrev AG(E:List Ck):Prop:= ∀c∈E,c.holds
theorem A0{E:List Ck}(h:E.map Ck.diag=E):AG E:=by
 intro c hc
 obtain⟨i,hi⟩:=List.getElem?_of_mem hc
 have h2:(E.map Ck.diag)[i]? =some c:=by rw[h];exact hi
 rw[List.getElem?_map,hi]at h2
 simp only[Option.map_some,Option.some.injEq]at h2
 cases c with
 |b x y=>simp only[Ck.diag,Ck.b.injEq,true_and]at h2;subst h2;exact id
 |n x y=>simp only[Ck.diag,Ck.n.injEq,true_and]at h2;subst h2;rfl
 |v x y=>simp only[Ck.diag,Ck.v.injEq,true_and]at h2;subst h2;rfl
inductive TK where
 |str|bool|int (k:IntKind)|row (e:TypeId) (esz:Nat)|st (fs:List (Nat×Nat×Bool)) (zs:List Value)|any
structure TD where
 k:TK
 sz:Nat
 agg:Bool
def LI(fs:List (Nat×Nat×Bool)):List Value->List (Nat×Value)->Option (List Value)
 |cs,[]=>some cs
 |cs,(i,v)::ps=>match fs[i]? with
  |some (off,n,_)=>if v.cells.toList.length=n/\off+n<=cs.length then LI fs (G0 cs off v.cells.toList) ps else none
  |none=>none
def TK.ok (P:Program)(t:TypeId)(sz:Nat):TK->Prop
 | .str=>P.underlying t=some .string
 | .bool=>P.underlying t=some .bool
 | .int k=>P.underlying t=some (.int k)
 | .row e esz=>P.underlying t=some (.slice e)/\ ∀w,(sizeOf e).run P w= .ok esz w
 | .st fs zs=>(∀(ps:List (Nat×Value)) (cs:List Value) w,LI fs zs ps=some cs->(Instr.build t ps.toArray).run P w= .ok (.agg cs.toArray) w)/\ ∀i off n g,fs[i]? =some (off,n,g)->
  (∀b o w,(Instr.fieldAt t (.pointer (some ⟨b,o,none⟩)) i).run P w= .ok (.pointer (some ⟨b,o+off,none⟩)) w)/\
  (∀(cs:List Value) w,cs.length=sz->off+n<=sz/\(Instr.field t (.agg cs.toArray) i).run P w= .ok (if g then .agg ((cs.drop off).take n).toArray else cs.getD off undef) w)
 | .any=>True
structure TD.ok (P:Program) (t:TypeId) (d:TD):Prop where
 agg: ∀w,(isAgg t).run P w= .ok d.agg w
 size: ∀w,(sizeOf t).run P w= .ok d.sz w
 kind:d.k.ok P t d.sz
abbrev TT:=List (Nat×TD)
def HP:TT->Nat->Option TD
 |[],_=>none
 |(t,d)::T,k=>match Nat.beq t k with
  |true=>some d
  |false=>HP T k
def KK:List (Nat×Kn)->Nat->Option Kn
 |[],_=>none
 |(t,d)::F,k=>match Nat.beq t k with
  |true=>some d
  |false=>KK F k
theorem fS: ∀ {F:List (Nat×Kn)} {k:Nat} {x:Kn},KK F k=some x-> ∃i,(i,x)∈F
 |[],_,_,h=>by cases h
 |(t,d)::F,k,x,h=>by
  unfold KK at h
  split at h
  ·cases h;exact⟨t,.head _⟩
  ·obtain⟨i,hi⟩:=fS h;exact⟨i,.tail _ hi⟩
inductive HX:Type 1 where
 |box (b:Nat) (cs:List XV) (t:TypeId)
 |pv (e:TypeId) (K:Kn) (h: ∀x,(K.f x).length=K.sz)
 |ho (x:HO)
def HX.d:HX->HO
 | .box b cs t=>.box b (cs.map XV.d0) t
 | .pv e (@Kn.mk α inh v sz l f _ _) _=>.priv e sz v l.length (l.flatMap f)
 | .ho x=>x
def J3:List (Nat×HX)->Nat->Option HX
 |[],_=>none
 |(t,d)::H,k=>match Nat.beq t k with
  |true=>some d
  |false=>J3 H k
def ES:List (Nat×HX)->Nat->HX->List (Nat×HX)
 |[],_,_=>[]
 |(t,d)::H,k,x=>match Nat.beq t k with
  |true=>(t,x)::H
  |false=>(t,d)::ES H k x
def HD(H:List (Nat×HX)):List HO:=H.map λ x=>x.2.d
theorem fT: ∀ {H:List (Nat×HX)} {k:Nat} {x:HX},J3 H k=some x-> ∃i:Nat,(HD H)[i]? =some x.d/\ ∀y,HD (ES H k y)=(HD H).set i y.d
 |[],_,_,h=>by cases h
 |(t,d)::H,k,x,h=>by
  unfold J3 at h
  split at h<;>rename_i e
  ·cases h
   refine⟨0,rfl,λ y=>?_⟩
   simp only[ES,e];rfl
  ·obtain⟨i,h1,h2⟩:=fT h
   refine⟨i+1,by simpa[HD]using h1,λ y=>?_⟩
   simp only[ES,e]
   show d.d::HD (ES H k y)=_
   rw[h2 y];rfl
def nth{α:Type}:List α->Nat->Option α
 |[],_=>none
 |x::_,0=>some x
 |_::l,n+1=>nth l n
theorem H0{α:Type}: ∀(l:List α) (n:Nat),nth l n=l[n]?
 |[],_=>by simp[nth]
 |_::_,0=>by simp[nth]
 |_::l,n+1=>by simp[nth,H0 l n]
def JP{α:Type}:List α->Nat->Nat->Option (List α)
 |_,0,0=>some []
 |[],_,_=>none
 |x::l,0,n+1=>match JP l 0 n with
  |some r=>some (x::r)
  |none=>none
 |_::l,o+1,n=>JP l o n
theorem S0{α:Type}: ∀(l:List α) (o n:Nat) (r:List α),JP l o n=some r->r=(l.drop o).take n/\r.length=n/\o+n<=l.length
 |l,0,0,r,h=>by unfold JP at h;cases h;simp
 |[],o+1,n,r,h=>by simp[JP]at h
 |[],0,n+1,r,h=>by simp[JP]at h
 |x::l,0,n+1,r,h=>by
  unfold JP at h
  split at h
  ·rename_i r' hr
   cases h
   obtain⟨h1,h2,h3⟩:=S0 l 0 n r' hr
   refine⟨by rw[h1];simp,by simp[h2],by simp at h3 ⊢;omega⟩
  ·cases h
 |x::l,o+1,n,r,h=>by
  have h':JP l o n=some r:=by unfold JP at h;exact h
  obtain⟨h1,h2,h3⟩:=S0 l o n r h'
  exact⟨by rw[h1];simp,h2,by simp;omega⟩
def JQ{α:Type}:List α->Nat->List α->Option (List α)
 |l,0,[]=>some l
 |[],_,_=>none
 |_::l,0,v::vs=>match JQ l 0 vs with
  |some r=>some (v::r)
  |none=>none
 |x::l,o+1,vs=>match JQ l o vs with
  |some r=>some (x::r)
  |none=>none
theorem put_eq{α:Type}: ∀(l:List α) (o:Nat) (vs r:List α),JQ l o vs=some r->r=l.take o++vs++l.drop (o+vs.length)/\o+vs.length<=l.length
 |l,0,[],r,h=>by unfold JQ at h;cases h;simp
 |[],o+1,vs,r,h=>by simp[JQ]at h
 |[],0,v::vs,r,h=>by simp[JQ]at h
 |x::l,0,v::vs,r,h=>by
  unfold JQ at h
  split at h
  ·rename_i r' hr
   cases h
   obtain⟨h1,h2⟩:=put_eq l 0 vs r' hr
   simp at h1 h2
   exact⟨by rw[h1];simp,by simp;omega⟩
  ·cases h
 |x::l,o+1,vs,r,h=>by
  unfold JQ at h
  split at h
  ·rename_i r' hr
   cases h
   obtain⟨h1,h2⟩:=put_eq l o vs r' hr
   refine⟨?_,by simp;omega⟩
   rw[h1,show o+1+vs.length=(o+vs.length)+1 from by omega];simp
  ·cases h
def MQ:List Value->List XV
 |[]=>[]
 |x::l=>.v x::MQ l
def PZ:List Value->Option (List XV)
 |[]=>some []
 |x::l=>match PZ l with
  |some r=>some (.v x::r)
  |none=>none
theorem UZ: ∀(l:List Value) (r:List XV),PZ l=some r->r.map XV.d0=l
 |[],r,h=>by cases h;rfl
 |x::l,r,h=>by
  unfold PZ at h
  split at h
  ·rename_i r' hr;cases h;simp[UZ l r' hr,XV.d0]
  ·cases h
def C9(L:XE)(W:Gd):Operand->Option (XV×List Ck)
 | .tmp k=>match BL L k with
  |some (.t,v)=>some (v,[])
  |some (.g b,v)=>match W with
   | .t=>some (v,[.b true b])
   | .g a=>some (v,[.b a b])
  |none=>none
 | .const v=>some (.v v,[])
 | .global k=>some (.v (.pointer (some ⟨k,0,none⟩)),[])
 | .func f=>some (.v (.func (.func f) #[] #[]),[])
theorem AT{L:XE}{W:Gd}{x:Operand}{v:XV}{E:List Ck}(h:C9 L W x=some (v,E))(hE:AG E):A8 L.d W.d x v.d:=by
 cases x with
 |tmp k=>
  simp only[C9]at h
  split at h
  ·rename_i v' e;simp only[Option.some.injEq,Prod.mk.injEq]at h;obtain⟨rfl,rfl⟩:=h;exact .t (HN e)
  ·rename_i b v' e
   cases W with
   |t=>simp only[Option.some.injEq,Prod.mk.injEq]at h;obtain⟨rfl,rfl⟩:=h;exact .g (HN e) (hE _ (.head _))
   |g a=>simp only[Option.some.injEq,Prod.mk.injEq]at h;obtain⟨rfl,rfl⟩:=h;exact .g (HN e) (hE _ (.head _))
  ·cases h
 |const v'=>simp only[C9,Option.some.injEq,Prod.mk.injEq]at h;obtain⟨rfl,rfl⟩:=h;exact .c
 |global k=>simp only[C9,Option.some.injEq,Prod.mk.injEq]at h;obtain⟨rfl,rfl⟩:=h;exact .gl
 |func f=>simp only[C9,Option.some.injEq,Prod.mk.injEq]at h;obtain⟨rfl,rfl⟩:=h;exact .f
theorem AG.app {E E':List Ck}(h:AG (E++E')):AG E/\AG E':=⟨λ c hc=>h c (List.mem_append_left _ hc),λ c hc=>h c (List.mem_append_right _ hc)⟩
abbrev Q0:=Option (XV×List Prop×List Ck)
def OQ(k:IntKind)(r:Int):List Prop:=match k with
 | .i64=>[-9223372036854775808<=r/\r<=9223372036854775807]
 | .u8=>[0<=r/\r<=255]
 | .i32=>[-2147483648<=r/\r<=2147483647]
 | .u32=>[0<=r/\r<=4294967295]
 | .u64=>[0<=r/\r<=18446744073709551615]
 |k=>[k.wrap r=r]
def HQ:List Prop->Prop
 |[]=>True
 |p::ps=>p/\HQ ps
theorem S1{k:IntKind}{r:Int}(h:HQ (OQ k r)):k.wrap r=r:=by
 cases k<;>simp only[OQ,HQ,and_true]at h<;>first|exact h|(simp[IntKind.wrap,IntKind.signed,IntKind.bits];omega)
def arith(op:BinOp)(k:IntKind)(a b:Int):Option (Int×List Prop):=
 match op with
 | .add=>some (a+b,OQ k (a+b))
 | .sub=>some (a-b,OQ k (a-b))
 | .mul=>some (a*b,OQ k (a*b))
 | .quo=>match k with
  | .i64=>some (a/b,[0<=a/\a<=9223372036854775807/\0<b])
  |_=>none
 | .rem=>match k with
  | .i64=>some (a%b,[0<=a/\0<b])
  |_=>none
 |_=>none
def fU(op:BinOp)(a b:Int):Option Bool:=
 match op with
 | .lss=>some (decide (a<b))
 | .leq=>some (decide (a<=b))
 | .gtr=>some (decide (b<a))
 | .geq=>some (decide (b<=a))
 | .eql=>some (a==b)
 | .neq=>some (a != b)
 |_=>none
def fV(op:BinOp)(a b:A1):Option Bool:=
 match op with
 | .lss=>some (Op.bytesLess a b)
 | .leq=>some (Op.bytesLess a b||a==b)
 | .gtr=>some (!(Op.bytesLess a b||a==b))
 | .geq=>some (!Op.bytesLess a b)
 | .eql=>some (a==b)
 | .neq=>some (!(a==b))
 |_=>none
def S2:IntKind->IntKind->Bool
 | .i64,.i64=>true
 | .u8,.u8=>true
 | .i32,.i32=>true
 | .u32,.u32=>true
 | .u64,.u64=>true
 | .i8,.i8=>true
 | .i16,.i16=>true
 | .u16,.u16=>true
 |_,_=>false
theorem V1{a b:IntKind}(h:S2 a b=true):a=b:=by cases a<;>cases b<;>first|rfl|(exact absurd h (by decide))|cases h
def YG(op:BinOp):XV->XV->Option (XV×List Prop)
 | .v (
    .int k a),.v (.int k' b)=>match S2 k k' with
  |true=>match fU op a b with
   |some r=>some (.v (.bool r),[])
   |none=>match arith op k a b with
    |some (r,p)=>some (.v (.int k r),p)
    |none=>none
  |false=>none
 | .v (.string ⟨⟨a⟩⟩),.v (.string ⟨⟨b⟩⟩)=>match fV op a b with
  |some r=>some (.v (.bool r),[])
  |none=>match op with
   | .add=>some (.v (.string ⟨⟨a++b⟩⟩),[len a+len b<=9223372036854775807])
   |_=>none
 |_,_=>none
section
variable {P:Program} {C:World->Prop} {L:Env} {W:Bool} {d:Option Tmp} {ty:TypeId} {ps:String} {af:Array Edge} {gd:Option (Nat×Bool)}
theorem sZ{op:BinOp}{t t':TypeId}{x y:Operand}{a b v:XV}{p:List Prop}(h:YG op a b=some (v,p))(hx:A8 L W x a.d)(hy:A8 L W y b.d)(hp:W=true->HQ p):PV P C L W ⟨d,.binOp op t x y t',ty,ps,af,gd⟩ v.d:=by
 unfold YG at h
 split at h
 ·rename_i k a' k' b'
  split at h
  ·rename_i hk
   have:=V1 hk;subst this
   split at h
   ·rename_i r hr
    simp only[Option.some.injEq,Prod.mk.injEq]at h;obtain⟨rfl,rfl⟩:=h
    cases op<;>simp only[fU,Option.some.injEq,reduceCtorEq]at hr<;>subst hr
    ·exact .eql hx hy
    ·exact .neq hx hy
    ·exact .lss hx hy
    ·exact .leq hx hy
    ·exact .gtr hx hy
    ·exact .geq hx hy
   ·split at h
    ·rename_i r p' hr
     simp only[Option.some.injEq,Prod.mk.injEq]at h;obtain⟨rfl,rfl⟩:=h
     cases op<;>simp only[arith,Option.some.injEq,Prod.mk.injEq,reduceCtorEq]at hr
     ·obtain⟨rfl,rfl⟩:=hr;exact .R8 hx hy λ hW=>S1 (hp hW)
     ·obtain⟨rfl,rfl⟩:=hr;exact .TZ hx hy λ hW=>S1 (hp hW)
     ·obtain⟨rfl,rfl⟩:=hr;exact .U0 hx hy λ hW=>S1 (hp hW)
     ·split at hr<;>simp only[Option.some.injEq,Prod.mk.injEq,reduceCtorEq]at hr
      obtain⟨rfl,rfl⟩:=hr;exact .quo hx hy λ hW=>(hp hW).1
     ·split at hr<;>simp only[Option.some.injEq,Prod.mk.injEq,reduceCtorEq]at hr
      obtain⟨rfl,rfl⟩:=hr;exact .rem hx hy λ hW=>(hp hW).1
    ·cases h
  ·cases h
 ·rename_i a' b'
  split at h
  ·rename_i r hr
   simp only[Option.some.injEq,Prod.mk.injEq]at h;obtain⟨rfl,rfl⟩:=h
   cases op<;>simp only[fV,Option.some.injEq,reduceCtorEq]at hr<;>subst hr
   ·exact .NI hx hy
   ·exact .MF hx hy
   ·exact .pH hx hy
   ·exact .pI hx hy
   ·exact .pJ hx hy
   ·exact .pK hx hy
  ·split at h
   ·simp only[Option.some.injEq,Prod.mk.injEq]at h;obtain⟨rfl,rfl⟩:=h
    exact .EA hx hy λ hW=>(hp hW).1
   ·cases h
 ·cases h
end
end Go.Eng
namespace Go.Eng
open Go.RowKit
def NU(F:List (Nat×Kn))(H:List (Nat×HX))(k:Nat):Option Kn:=
 match KK F k with
 |some K=>some K
 |none=>match J3 H k with
  |some (.pv _ (@Kn.mk α inh v sz l f g' hg') _)=>some (@kn α inh v sz l f)
  |_=>none
def KL(L:XE)(W:Gd)(x y:Operand):Option (XV×XV×List Ck):=
 match C9 L W x with
 |some (a,E)=>match C9 L W y with
  |some (b,E')=>some (a,b,E++E')
  |none=>none
 |none=>none
theorem LK{L:XE}{W:Gd}{x y:Operand}{a b:XV}{E:List Ck}(h:KL L W x y=some (a,b,E))(hE:AG E):A8 L.d W.d x a.d/\A8 L.d W.d y b.d:=by
 unfold KL at h
 split at h
 ·rename_i a' E1 h1
  split at h
  ·rename_i b' E2 h2
   simp only[Option.some.injEq,Prod.mk.injEq]at h;obtain⟨rfl,rfl,rfl⟩:=h
   exact⟨AT h1 hE.app.1,AT h2 hE.app.2⟩
  ·cases h
 ·cases h
def Gd.and (W:Gd)(b:Bool):Gd:=match W with
 | .t=>.g b
 | .g a=>.g (a&&b)
theorem Gd.fW (W:Gd)(b:Bool):(W.and b).d=(W.d&&b):=by cases W<;>simp[Gd.and,Gd.d]
def LM:XV->Option Bool
 | .v (.bool b)=>some b
 |_=>none
theorem NV{v:XV}{b:Bool}(h:LM v=some b):v= .v (.bool b):=by unfold LM at h;split at h<;>simp_all
def MR:XV->Option (IntKind×Int)
 | .v (.int k b)=>some (k,b)
 |_=>none
theorem OR{v:XV}{k:IntKind}{b:Int}(h:MR v=some (k,b)):v= .v (.int k b):=by unfold MR at h;split at h<;>simp_all
def YH(L:XE)(W:Gd)(c x y:Operand):Q0:=
 match C9 L W c with
 |some (
     vc,E)=>match LM vc with
  |some p=>match y with
   | .const (.bool false)=>match C9 L (W.and p) x with
    |some (vx,E')=>match LM vx with
     |some q=>some (.v (.bool (p&&q)),[],E++E')
     |none=>none
    |none=>none
   |_=>match x with
    | .const (.bool true)=>match C9 L (W.and (!p)) y with
     |some (vy,E')=>match LM vy with
      |some q=>some (.v (.bool (p||q)),[],E++E')
      |none=>none
     |none=>none
    |_=>none
  |none=>none
 |none=>none
def YI(T:TT)(s t:TypeId)(a:XV):Option (XV×List Prop):=
 match MR a with
 |some (k,n)=>match HP T s with
  |some ⟨.int k1,_,_⟩=>match HP T t with
   |some ⟨.int k2,_,_⟩=>match S2 k k1 with
    |true=>some (.v (.int k2 n),OQ k2 n)
    |false=>none
   |_=>none
  |_=>none
 |none=>none
def S3:XV->Option A1
 | .v (.string ⟨⟨a⟩⟩)=>some a
 |_=>none
theorem YJ{v:XV}{a:A1}(h:S3 v=some a):v= .v (str a):=by unfold S3 at h;split at h<;>simp_all
def YK(T:TT)(F:List (Nat×Kn))(H:List (Nat×HX))(t:TypeId)(a:XV):Option (XV×List Ck):=
 match HP T t with
 |some ⟨.str,_,_⟩=>match S3 a with
  |some l=>some (.v (i64 (len l)),[])
  |none=>none
 |some ⟨.row e esz,_,_⟩=>match a with
  | .sl k x=>match NU F H k with
   |some (@Kn.mk α inh kv sz l f g' hg')=>some (.v (i64 (len l)),[.v x kv])
   |none=>none
  |_=>none
 |_=>none
def YL(T:TT)(F:List (Nat×Kn))(H:List (Nat×HX))(t:TypeId)(a b:XV):Q0:=
 match a with
 | .sl k x=>match HP T t with
  |some ⟨.row e esz,_,_⟩=>match MR b with
   |some (_,i)=>match NU F H k with
    |some (@Kn.mk α inh kv sz l f g' hg')=>some (.el k x esz i 0,[0<=i/\i<len l],[.v x kv,.n esz sz])
    |none=>none
   |none=>none
  |_=>none
 |_=>none
def YM(T:TT)(t:TypeId)(a:XV)(f:Nat):Option XV:=
 match HP T t with
 |some ⟨.st fs _,_,_⟩=>match nth fs f with
  |some (off,_,_)=>match a with
   | .el k x sz i j=>some (.el k x sz i (j+off))
   | .bx k b o=>some (.bx k b (o+off))
   |_=>none
  |none=>none
 |_=>none
def YN:XV->Bool
 | .ag _=>false
 | .tu _=>false
 |_=>true
def YO(T:TT)(t:TypeId)(a:XV)(f:Nat):Option XV:=
 match HP T t with
 |some ⟨.st fs _,sz,_⟩=>match nth fs f with
  |some (
      off,n,g)=>match a with
   | .ag cs=>match Nat.beq cs.length sz with
    |true=>match g with
     |true=>match JP cs off n with
      |some r=>some (.ag r)
      |none=>none
     |false=>match nth cs off with
      |some c=>match YN c with
       |true=>some c
       |false=>none
      |none=>none
    |false=>none
   |_=>none
  |none=>none
 |_=>none
def V2(T:TT)(F:List (Nat×Kn))(H:List (Nat×HX))(t:TypeId)(a:XV):Q0:=
 match HP T t with
 |some ⟨_,n,g⟩=>match a with
  | .el k x sz i j=>match NU F H k with
   |some (@Kn.mk α inh kv ksz l f g' hg')=>match g with
    |false=>match nth (f (@A2 α inh l i)) j with
     |some c=>some (.v c,[0<=i/\i<len l],[.v x kv,.n sz ksz])
     |none=>none
    |true=>match JP (f (@A2 α inh l i)) j n with
     |some r=>match PZ r with
      |some r'=>some (.ag r',[0<=i/\i<len l],[.v x kv,.n sz ksz])
      |none=>none
     |none=>none
   |none=>none
  | .bx k b o=>match J3 H k with
   |some (.box b' cs _)=>match g with
    |false=>match nth cs o with
     |some c=>match YN c with
      |true=>some (c,[],[.n b b'])
      |false=>none
     |none=>none
    |true=>match JP cs o n with
     |some r=>some (.ag r,[],[.n b b'])
     |none=>none
   |_=>none
  |_=>none
 |none=>none
def K7(T:TT)(L:XE)(W:Gd)(t:TypeId)(x:Operand)(lo hi:Option Operand):Q0:=
 match HP T t with
 |some ⟨.str,_,_⟩=>match C9 L W x with
  |some (
      vx,E)=>match S3 vx with
   |some a=>match lo,hi with
    |some y,some z=>match C9 L W y with
     |some (vy,E1)=>match C9 L W z with
      |some (vz,E2)=>match MR vy with
       |some (_,i)=>match MR vz with
        |some (_,j)=>some (.v (str (Eng.sub a i j)),[0<=i/\i<=j/\j<=len a],E++(E1++E2))
        |none=>none
       |none=>none
      |none=>none
     |none=>none
    |some y,none=>match C9 L W y with
     |some (vy,E1)=>match MR vy with
      |some (_,i)=>some (.v (str (A4 a i)),[0<=i/\i<=len a],E++E1)
      |none=>none
     |none=>none
    |none,some z=>match C9 L W z with
     |some (vz,E1)=>match MR vz with
      |some (_,j)=>some (.v (str (Eng.sub a 0 j)),[0<=j/\j<=len a],E++E1)
      |none=>none
     |none=>none
    |none,none=>none
   |none=>none
  |none=>none
 |_=>none
def YP:XV->Option XV
 | .v (.bool b)=>some (.v (.bool (!b)))
 |_=>none
def YQ:XV->Option (XV×List Prop)
 | .v (.int k a)=>some (.v (.int k (-a)),OQ k (-a))
 |_=>none
def YR(T:TT)(op:BinOp)(t:TypeId)(a b:XV):Option XV:=
 match LM a with
 |some p=>match LM b with
  |some q=>match HP T t with
   |some ⟨.bool,_,_⟩=>match op with
    | .eql=>some (.v (.bool (p==q)))
    | .neq=>some (.v (.bool (p != q)))
    |_=>none
   |_=>none
  |none=>none
 |none=>none
def C4(T:TT)(t:TypeId)(a b:XV):Option (XV×List Prop):=
 match HP T t with
 |some ⟨.str,_,_⟩=>match S3 a with
  |some s=>match MR b with
   |some (_,i)=>some (.v (.int .u8 (A3 s i)),[0<=i/\i<len s])
   |none=>none
  |none=>none
 |_=>none
def cellsOf:XV->Option (List XV)
 | .ag cs=>some cs
 | .tu _=>none
 |x=>some [x]
def V3(F:List (Nat×Kn))(H:List (Nat×HX)):XV->Option (List Ck)
 | .v u=>match u.oneCell' with
  |true=>some []
  |false=>none
 | .sl k u=>match NU F H k with
  |some (@Kn.mk α inh kv sz l f g' hg')=>some [.v u kv]
  |none=>none
 | .el _ _ _ _ _=>some []
 | .bx _ _ _=>some []
 |_=>none
def Q1(
      F:List (Nat×Kn)) (H:List (Nat×HX)) (L:XE) (W:Gd) (fs:List (Nat×Nat×Bool)):List XV->List (Nat×Operand)->Option (List XV×List Ck)
 |cs,[]=>some (cs,[])
 |cs,(i,x)::ps=>match nth fs i with
  |some (
      off,n,g)=>match C9 L W x with
   |some (
       v,E)=>match g with
    |true=>match v with
     | .ag vs=>match Nat.beq vs.length n with
      |true=>match JQ cs off vs with
       |some cs'=>match Q1 F H L W fs cs' ps with
        |some (r,E')=>some (r,E++E')
        |none=>none
       |none=>none
      |false=>none
     |_=>none
    |false=>match V3 F H v with
     |some E1=>match Nat.beq 1 n with
      |true=>match JQ cs off [v]with
       |some cs'=>match Q1 F H L W fs cs' ps with
        |some (r,E')=>some (r,E1++(E++E'))
        |none=>none
       |none=>none
      |false=>none
     |none=>none
   |none=>none
  |none=>none
def YS(T:TT)(F:List (Nat×Kn))(H:List (Nat×HX))(L:XE)(W:Gd)(t:TypeId)(ps:Array (Nat×Operand)):Q0:=
 match HP T t with
 |some ⟨.st fs zs,_,_⟩=>match ps with
  |⟨l⟩=>match PZ zs with
   |some cs=>match Q1 F H L W fs cs l with
    |some (r,E)=>some (.ag r,[],E)
    |none=>none
   |none=>none
 |_=>none
def YT(a:XV)(i:Nat):Option XV:=
 match a with
 | .tu vs=>match nth vs i with
  |some (.tu _)=>none
  |r=>r
 |_=>none
def tA:XV->Bool
 | .bx _ _ _=>true
 |_=>false
def Q2(T:TT)(F:List (Nat×Kn))(H:List (Nat×HX))(L:XE)(W:Gd):Op->Q0
 | .move x=>match C9 L W x with
  |some (v,E)=>some (v,[],E)
  |none=>none
 | .assign x=>match C9 L W x with
  |some (v,E)=>some (v,[],E)
  |none=>none
 | .pick c x y=>YH L W c x y
 | .binOp op t x y _=>match KL L W x y with
  |some (a,b,E)=>match YG op a b with
   |some (v,p)=>some (v,p,E)
   |none=>match YR T op t a b with
    |some v=>some (v,[],E)
    |none=>none
  |none=>none
 | .unOp op _ x=>match C9 L W x with
  |some (a,E)=>match op with
   | .not=>match YP a with
    |some v=>some (v,[],E)
    |none=>none
   | .neg=>match YQ a with
    |some (v,p)=>some (v,p,E)
    |none=>none
   |_=>none
  |none=>none
 | .convert s t x=>match C9 L W x with
  |some (a,E)=>match YI T s t a with
   |some (v,p)=>some (v,p,E)
   |none=>none
  |none=>none
 | .slice t x lo hi none=>K7 T L W t x lo hi
 | .fieldAddr t x f=>match C9 L W x with
  |some (a,E)=>match YM T t a f with
   |some v=>some (v,[],E)
   |none=>none
  |none=>none
 | .field t x f=>match C9 L W x with
  |some (a,E)=>match YO T t a f with
   |some v=>some (v,[],E)
   |none=>none
  |none=>none
 | .indexAddr t x y=>match KL L W x y with
  |some (a,b,E)=>match YL T F H t a b with
   |some (v,p,E')=>some (v,p,E++E')
   |none=>none
  |none=>none
 | .index t x y=>match KL L W x y with
  |some (a,b,E)=>match C4 T t a b with
   |some (v,p)=>some (v,p,E)
   |none=>none
  |none=>none
 | .load t x=>match C9 L W x with
  |some (a,E)=>match V2 T F H t a with
   |some (v,p,E')=>some (v,p,E++E')
   |none=>none
  |none=>none
 | .build t ps=>YS T F H L W t ps
 | .extract x i=>match C9 L W x with
  |some (a,E)=>match YT a i with
   |some v=>some (v,[],E)
   |none=>none
  |none=>none
 | .call ⟨.builtin .len,⟨[x]⟩,⟨[t]⟩⟩=>match C9 L W x with
  |some (a,E)=>match YK T F H t a with
   |some (v,E')=>some (v,[],E++E')
   |none=>none
  |none=>none
 | .nilCheck x=>match C9 L W x with
  |some (a,E)=>match tA a with
   |true=>some (a,[],E)
   |false=>none
  |none=>none
 |_=>none
end Go.Eng
