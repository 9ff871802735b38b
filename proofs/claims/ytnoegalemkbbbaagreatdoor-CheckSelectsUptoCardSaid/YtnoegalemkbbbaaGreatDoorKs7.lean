/- Lemmas for the card. -/
import Derived.Test.YtnoegalemkbbbaaGreatDoorKs6
import Derived.Lib.Overlaps
import Derived.Shelf.Spec.SlicesGrow
set_option linter.unusedVariables false
set_option linter.unusedSimpArgs false
set_option maxRecDepth 100000
namespace Go.Eng
open Go.RowKit
structure Tm where
 op:Int
 many:Int
 name:A0
 s:A0
 n:Int
 c:Nd
deriving Inhabited,DecidableEq
def Tm.cells (t:Tm):List Value:=[i64 t.op,i64 t.many,str t.name,str t.s,i64 t.n,i64 t.c.kind,i64 t.c.many,str t.c.name,str t.c.s,.bool t.c.neg,i64 t.c.e]
theorem Tm.AS (t:Tm):t.cells.length=11:=rfl
abbrev Fl:=List Tm
def AV(o:Int):Tm:=⟨o,0,[],[],0,C3⟩
inductive Tf where
 |mk (t:Tm) (ps:List Tf)
mutual
def Tf.flat:Tf->Fl
 | .mk t ps=> { t with many:=len ps}::AN ps
def AN:List Tf->Fl
 |[]=>[]
 |x::l=>x.flat++AN l
end
instance:Inhabited Tf:=⟨.mk default []⟩
def Tf.t:Tf->Tm
 | .mk t _=>t
def Tf.ps:Tf->List Tf
 | .mk _ ps=>ps
def Tf.named (n:A0):Tf->Tf
 | .mk t ps=>.mk { t with name:=n} ps
def lU:Tf->Tf->Tf
 | .mk t [a,b],g=>if t.op=4 then .mk (AV 4) [a,lU b g]else .mk (AV 4) [.mk t [a,b],g]
 |x,g=>.mk (AV 4) [x,g]
def lV:List Tf->Tf
 |[]=>default
 |[x]=>x
 |x::y::l=>lU x (lV (y::l))
structure Sp where
 part:Bool
 name:A0
 n:Int
deriving Inhabited,DecidableEq
def Sp.cells (x:Sp):List Value:=[.bool x.part,str x.name,i64 x.n]
def PO(s:A0):Bool:=s != []&&BD s==s
def CI(l:List Tk)(i:Int)(m:A0):Bool:=(at' l i).kind==1&&(at' l i).s==m
def BD1(l:List Tk)(i:Int)(w:A0):Bool:=(at' l i).kind==2&&(at' l i).s==w
def JI{α:Type}(l:List Tk)(i e:Int):PR α:=.er e (at' l i).pos
def PR.bind {α β:Type}(r:PR α)(k:α->Int->PR β):PR β:=match r with
 | .er c p=>.er c p
 | .ok x j=>k x j
def H5(l:List Tk)(i:Int)(m:A0):PR Unit:=if CI l i m then .ok () (i+1)else JI l i 1
def KL(l:List Tk)(d i:Int)(m:A0):PR Unit:=if CI l i m&&decide (64<=d)then JI l i 3 else H5 l i m
def AD3(s:A0):Int:=s.foldl (λ n c=>10*n+((c.toNat:Int)-48)) 0
def UM(t:Tk):Int:=AD3 (t.c.s++List.replicate t.c.e.toNat 48)
def MX(l:List Tk)(i:Int):PR Int:=
 if(at' l i).kind≠5\/(at' l i).c.neg=true\/(at' l i).c.e<0\/7<len (at' l i).c.s+(at' l i).c.e then JI l i 1
 else if 1000000<UM (at' l i)then JI l i 1 else .ok (UM (at' l i)) (i+1)
def AD4(l:List Tk)(i:Int):PR Tf:=
 if(at' l i).kind=3 then .ok (.mk { AV 1 with s:=(at' l i).s} []) (i+1)
 else(MX l (i+1)).bind λ n j=>
  if CI l j [58]then(H5 l (j+1) [93]).bind λ _ k=>.ok (.mk { AV 3 with n:=n} []) k
  else(H5 l j [93]).bind λ _ k=>.ok (.mk { AV 2 with n:=n} []) k
def AD5:Nat->List Tk->List Tf->Int->PR Tf
 |0,l,_,i=>JI l i 1
 |f+1,l,xs,i=>if(at' l i).kind=3\/CI l i [91]=true then(AD4 l i).bind λ x j=>AD5 f l (xs++[x]) j else .ok (lV xs) i
def UN:A0:=[116,114,117,101]
def UO:A0:=[102,97,108,115,101]
def UP:A0:=[110,117,108,108]
def cX(l:List Tk)(i:Int):PR Nd:=
 if(at' l i).kind=5 then .ok (at' l i).c (i+1)
 else if(at' l i).kind=4 then .ok ⟨4,0,[],(at' l i).s,false,0⟩ (i+1)
 else if(at' l i).kind=2/\(at' l i).s∈[UP,UO,UN]then .ok ⟨([UP,UO,UN].idxOf (at' l i).s:Nat),0,[],[],false,0⟩ (i+1)
 else JI l i 1
def XJ:List A0:=[[61,61],[33,61],[60],[60,61],[62],[62,61]]
def sOr:A0:=[111,114]
def BD3:A0:=[97,110,100]
def BD4:A0:=[110,111,116]
def BD5:A0:=[116,111,95,101,110,116,114,105,101,115]
def BD6:A0:=[102,114,111,109,95,101,110,116,114,105,101,115]
def BD7:A0:=[114,101,118,101,114,115,101]
end Go.Eng
set_option maxRecDepth 100000
namespace Go.Proofs.YtnoegalemkbbbaaGreatDoor
open Go.Proofs.Tryz
open Go.Eng
theorem lW:prog.underlying 48=some (.struct (prog.fieldsOf 48)):=by kernel_rfl
theorem AD6:(prog.fieldsOf 48).toList=[⟨"Op",3,0,false,"","",0⟩,⟨"Many",3,1,false,"","",8⟩,⟨"Name",9,2,false,"","",16⟩,⟨"S",9,3,false,"","",32⟩,⟨"N",3,4,false,"","",48⟩,⟨"C",46,5,false,"","",56⟩]:=by kernel_rfl
theorem lX(d:Nat)(a b:Tm)(w:World):(Op.equalIn (d+1+1+1) 48 (.agg (Tm.cells a).toArray) (.agg (Tm.cells b).toArray)).run prog w= .ok (decide (a=b)) w:=by
 rw[run_equalIn_agg w _ _ _ _ lW Tryz.stoodInHeld48,AD6]
 rw[FV (P:=prog) (w:=w) (xs:=(Tm.cells a).toArray) (ys:=(Tm.cells b).toArray) (f:=⟨"Op",3,0,false,"","",0⟩) Ab (show(part 3 (Tm.cells a).toArray 0).run prog w= .ok (i64 ((a).op)) w by kernel_rfl) (show(part 3 (Tm.cells b).toArray 0).run prog w= .ok (i64 ((b).op)) w by kernel_rfl) (L8 underlying3 w (d+1) ((a).op) ((b).op))]
 rw[FV (P:=prog) (w:=w) (xs:=(Tm.cells a).toArray) (ys:=(Tm.cells b).toArray) (f:=⟨"Many",3,1,false,"","",8⟩) Ab (show(part 3 (Tm.cells a).toArray 1).run prog w= .ok (i64 ((a).many)) w by kernel_rfl) (show(part 3 (Tm.cells b).toArray 1).run prog w= .ok (i64 ((b).many)) w by kernel_rfl) (L8 underlying3 w (d+1) ((a).many) ((b).many))]
 rw[FV (P:=prog) (w:=w) (xs:=(Tm.cells a).toArray) (ys:=(Tm.cells b).toArray) (f:=⟨"Name",9,2,false,"","",16⟩) Ab (show(part 9 (Tm.cells a).toArray 2).run prog w= .ok (str ((a).name)) w by kernel_rfl) (show(part 9 (Tm.cells b).toArray 2).run prog w= .ok (str ((b).name)) w by kernel_rfl) (P3 underlying9 w (d+1) ((a).name) ((b).name))]
 rw[FV (P:=prog) (w:=w) (xs:=(Tm.cells a).toArray) (ys:=(Tm.cells b).toArray) (f:=⟨"S",9,3,false,"","",32⟩) Ab (show(part 9 (Tm.cells a).toArray 3).run prog w= .ok (str ((a).s)) w by kernel_rfl) (show(part 9 (Tm.cells b).toArray 3).run prog w= .ok (str ((b).s)) w by kernel_rfl) (P3 underlying9 w (d+1) ((a).s) ((b).s))]
 rw[FV (P:=prog) (w:=w) (xs:=(Tm.cells a).toArray) (ys:=(Tm.cells b).toArray) (f:=⟨"N",3,4,false,"","",48⟩) Ab (show(part 3 (Tm.cells a).toArray 4).run prog w= .ok (i64 ((a).n)) w by kernel_rfl) (show(part 3 (Tm.cells b).toArray 4).run prog w= .ok (i64 ((b).n)) w by kernel_rfl) (L8 underlying3 w (d+1) ((a).n) ((b).n))]
 rw[FV (P:=prog) (w:=w) (xs:=(Tm.cells a).toArray) (ys:=(Tm.cells b).toArray) (f:=⟨"C",46,5,false,"","",56⟩) Ab (show(part 46 (Tm.cells a).toArray 5).run prog w= .ok (.agg (Nd.cells ((a).c)).toArray) w by kernel_rfl) (show(part 46 (Tm.cells b).toArray 5).run prog w= .ok (.agg (Nd.cells ((b).c)).toArray) w by kernel_rfl) (cE d ((a).c) ((b).c) w)]
 have e:(.ok true w:Result Bool)= .ok (decide True) w:=rfl
 rw[VZ,e]
 simp only[W0]
 have hp:((a).op=(b).op/\(a).many=(b).many/\(a).name=(b).name/\(a).s=(b).s/\(a).n=(b).n/\(a).c=(b).c/\True)↔a=b:=by cases a;cases b;simp
 rw[decide_eq_decide.2 hp]
theorem LU(x y:Operand)(a b:Tm)(w:World):(do eqGuard .eql 48 x y (.agg (Tm.cells a).toArray) (.agg (Tm.cells b).toArray);binOp .eql 48 (.agg (Tm.cells a).toArray) (.agg (Tm.cells b).toArray):Sem Value).run prog w= .ok (.bool (decide (a=b))) w:=ZW x y w eqGuardType48 (lX 9997 a b w)
theorem AD7(x y:Operand)(a b:Tm)(w:World):(do eqGuard .neq 48 x y (.agg (Tm.cells a).toArray) (.agg (Tm.cells b).toArray);binOp .neq 48 (.agg (Tm.cells a).toArray) (.agg (Tm.cells b).toArray):Sem Value).run prog w= .ok (.bool (!(decide (a=b)))) w:=ZX x y w eqGuardType48 (lX 9997 a b w)
theorem lY:prog.underlying 52=some (.struct (prog.fieldsOf 52)):=by kernel_rfl
theorem AD8:(prog.fieldsOf 52).toList=[⟨"Kind",3,0,false,"","",0⟩,⟨"Many",3,1,false,"","",8⟩,⟨"Name",9,2,false,"","",16⟩,⟨"S",9,3,false,"","",32⟩,⟨"N",3,4,false,"","",48⟩,⟨"C",46,5,false,"","",56⟩]:=by kernel_rfl
theorem lZ(d:Nat)(a b:Tm)(w:World):(Op.equalIn (d+1+1+1) 52 (.agg (Tm.cells a).toArray) (.agg (Tm.cells b).toArray)).run prog w= .ok (decide (a=b)) w:=by
 rw[run_equalIn_agg w _ _ _ _ lY Tryz.stoodInHeld52,AD8]
 rw[FV (P:=prog) (w:=w) (xs:=(Tm.cells a).toArray) (ys:=(Tm.cells b).toArray) (f:=⟨"Kind",3,0,false,"","",0⟩) Ab (show(part 3 (Tm.cells a).toArray 0).run prog w= .ok (i64 ((a).op)) w by kernel_rfl) (show(part 3 (Tm.cells b).toArray 0).run prog w= .ok (i64 ((b).op)) w by kernel_rfl) (L8 underlying3 w (d+1) ((a).op) ((b).op))]
 rw[FV (P:=prog) (w:=w) (xs:=(Tm.cells a).toArray) (ys:=(Tm.cells b).toArray) (f:=⟨"Many",3,1,false,"","",8⟩) Ab (show(part 3 (Tm.cells a).toArray 1).run prog w= .ok (i64 ((a).many)) w by kernel_rfl) (show(part 3 (Tm.cells b).toArray 1).run prog w= .ok (i64 ((b).many)) w by kernel_rfl) (L8 underlying3 w (d+1) ((a).many) ((b).many))]
 rw[FV (P:=prog) (w:=w) (xs:=(Tm.cells a).toArray) (ys:=(Tm.cells b).toArray) (f:=⟨"Name",9,2,false,"","",16⟩) Ab (show(part 9 (Tm.cells a).toArray 2).run prog w= .ok (str ((a).name)) w by kernel_rfl) (show(part 9 (Tm.cells b).toArray 2).run prog w= .ok (str ((b).name)) w by kernel_rfl) (P3 underlying9 w (d+1) ((a).name) ((b).name))]
 rw[FV (P:=prog) (w:=w) (xs:=(Tm.cells a).toArray) (ys:=(Tm.cells b).toArray) (f:=⟨"S",9,3,false,"","",32⟩) Ab (show(part 9 (Tm.cells a).toArray 3).run prog w= .ok (str ((a).s)) w by kernel_rfl) (show(part 9 (Tm.cells b).toArray 3).run prog w= .ok (str ((b).s)) w by kernel_rfl) (P3 underlying9 w (d+1) ((a).s) ((b).s))]
 rw[FV (P:=prog) (w:=w) (xs:=(Tm.cells a).toArray) (ys:=(Tm.cells b).toArray) (f:=⟨"N",3,4,false,"","",48⟩) Ab (show(part 3 (Tm.cells a).toArray 4).run prog w= .ok (i64 ((a).n)) w by kernel_rfl) (show(part 3 (Tm.cells b).toArray 4).run prog w= .ok (i64 ((b).n)) w by kernel_rfl) (L8 underlying3 w (d+1) ((a).n) ((b).n))]
 rw[FV (P:=prog) (w:=w) (xs:=(Tm.cells a).toArray) (ys:=(Tm.cells b).toArray) (f:=⟨"C",46,5,false,"","",56⟩) Ab (show(part 46 (Tm.cells a).toArray 5).run prog w= .ok (.agg (Nd.cells ((a).c)).toArray) w by kernel_rfl) (show(part 46 (Tm.cells b).toArray 5).run prog w= .ok (.agg (Nd.cells ((b).c)).toArray) w by kernel_rfl) (cE d ((a).c) ((b).c) w)]
 have e:(.ok true w:Result Bool)= .ok (decide True) w:=rfl
 rw[VZ,e]
 simp only[W0]
 have hp:((a).op=(b).op/\(a).many=(b).many/\(a).name=(b).name/\(a).s=(b).s/\(a).n=(b).n/\(a).c=(b).c/\True)↔a=b:=by cases a;cases b;simp
 rw[decide_eq_decide.2 hp]
theorem O2(x y:Operand)(a b:Tm)(w:World):(do eqGuard .eql 52 x y (.agg (Tm.cells a).toArray) (.agg (Tm.cells b).toArray);binOp .eql 52 (.agg (Tm.cells a).toArray) (.agg (Tm.cells b).toArray):Sem Value).run prog w= .ok (.bool (decide (a=b))) w:=ZW x y w eqGuardType52 (lZ 9997 a b w)
theorem AD9(x y:Operand)(a b:Tm)(w:World):(do eqGuard .neq 52 x y (.agg (Tm.cells a).toArray) (.agg (Tm.cells b).toArray);binOp .neq 52 (.agg (Tm.cells a).toArray) (.agg (Tm.cells b).toArray):Sem Value).run prog w= .ok (.bool (!(decide (a=b)))) w:=ZX x y w eqGuardType52 (lZ 9997 a b w)
open Go.ChangeShapes Go.WideShapes Go.ChangeAt Go.RowKit Go.Eng Go.Deep
def PQ(W:World):Mem:=λ b o=>W.cell? ⟨b,o,none⟩
theorem AE0(W:World):Sat W (PQ W):=⟨λ _ _ _ h=>h⟩
theorem laidOut:laidOutB prog=true:=by kernel_rfl
section
variable {H:Type} {enc:TypeId×Value->H} {w:World} {base:Nat} {sp:Nat->Bool} {hd:Bool}
theorem H6{fs:Array Field}{n:Nat}{cs:List Value}{xs:List (DataW H×List MemPlace)}(k: ∀(i:Nat) (f:Field),fs[i]? =some f->DataW.trod enc prog w base sp hd n f.type ((cs.drop f.offset).take (prog.cellsOf f.type))=xs[i]?)(hx:xs.length=fs.size)
  {i t o c:Nat} (h:(fs[i]?).map (λ f=>(f.type,f.offset,prog.cellsOf f.type))=some (t,o,c)): ∃x,DataW.trod enc prog w base sp hd n t ((cs.drop o).take c)=some x:=by
 obtain⟨f,h1,j⟩:=Option.map_eq_some_iff.1 h
 have b:=k i f h1
 have e:i<xs.length:=by rw[hx];exact(Array.getElem?_eq_some_iff.1 h1).1
 rw[List.getElem?_eq_getElem e]at b
 simp only[Prod.mk.injEq]at j
 obtain⟨l,e2,e3⟩:=j
 rw[e3,e2,l]at b
 exact⟨_,b⟩
theorem MY{n:Nat}{cs:List Value}{c:Value}(b:cs=[c])(h: ∃x,DataW.trod enc prog w base sp hd n 3 cs=some x): ∃z,c=i64 z:=by
 obtain⟨x,h⟩:=h
 obtain⟨z,h1,_⟩:=DataW.trod_int underlying3 h
 rw[b]at h1
 exact⟨z,(List.cons.inj h1).1⟩
theorem RW{n:Nat}{cs:List Value}{c:Value}(b:cs=[c])(h: ∃x,DataW.trod enc prog w base sp hd n 9 cs=some x): ∃s:A0,c=str s/\len s<=9223372036854775807:=by
 obtain⟨x,h⟩:=h
 obtain⟨s,h1,_,e⟩:=DataW.trod_string underlying9 h
 rw[b]at h1
 refine⟨s.data.toList,(List.cons.inj h1).1,?_⟩
 unfold len
 have:s.data.toList.length=s.size:=Array.length_toList
 have i:s.size<=9223372036854775807:=e
 rw[this];omega
theorem AE1{n:Nat}{cs:List Value}{c:Value}(e:cs=[c])(h: ∃x,DataW.trod enc prog w base sp hd n 4 cs=some x): ∃b,c= .bool b:=by
 obtain⟨x,h⟩:=h
 obtain⟨b,h1,_⟩:=DataW.trod_bool underlying4 h
 rw[e]at h1
 exact⟨b,(List.cons.inj h1).1⟩
theorem mA{n:Nat}{cs:List Value}(h: ∃x,DataW.trod enc prog w base sp hd n 46 cs=some x): ∃l:Nd,cs=l.cells/\len l.s<=9223372036854775807:=by
 obtain⟨x,h⟩:=h
 obtain⟨xs,k,_,_,hl,b,e⟩:=DataW.trod_struct l6 h
 have j:cs.length=6:=hl.trans Ai
 match cs,j with
 |[c0,q,c2,c3,c4,c5],_=>
  obtain⟨z0,rfl⟩:=MY (c:=c0) rfl (H6 e b (i:=0) (t:=3) (o:=0) (c:=1) Ai)
  obtain⟨y,rfl⟩:=MY (c:=q) rfl (H6 e b (i:=1) (t:=3) (o:=1) (c:=1) Ai)
  obtain⟨s2,rfl,_⟩:=RW (c:=c2) rfl (H6 e b (i:=2) (t:=9) (o:=2) (c:=1) Ai)
  obtain⟨z,rfl,A⟩:=RW (c:=c3) rfl (H6 e b (i:=3) (t:=9) (o:=3) (c:=1) Ai)
  obtain⟨B,rfl⟩:=AE1 (c:=c4) rfl (H6 e b (i:=4) (t:=4) (o:=4) (c:=1) Ai)
  obtain⟨z5,rfl⟩:=MY (c:=c5) rfl (H6 e b (i:=5) (t:=3) (o:=5) (c:=1) Ai)
  exact⟨⟨z0,y,s2,z,B,z5⟩,rfl,A⟩
theorem AE2{n:Nat}{cs:List Value}(h: ∃x,DataW.trod enc prog w base sp hd n 48 cs=some x): ∃t:Tm,cs=t.cells:=by
 obtain⟨x,h⟩:=h
 obtain⟨xs,k,_,_,hl,b,j⟩:=DataW.trod_struct lW h
 have l:cs.length=11:=hl.trans Ai
 match cs,l with
 |[c0,y,c2,c3,c4,c5,z,A,B,c9,q],_=>
  obtain⟨z0,rfl⟩:=MY (c:=c0) rfl (H6 j b (i:=0) (t:=3) (o:=0) (c:=1) Ai)
  obtain⟨C,rfl⟩:=MY (c:=y) rfl (H6 j b (i:=1) (t:=3) (o:=1) (c:=1) Ai)
  obtain⟨s2,rfl,_⟩:=RW (c:=c2) rfl (H6 j b (i:=2) (t:=9) (o:=2) (c:=1) Ai)
  obtain⟨D,rfl,_⟩:=RW (c:=c3) rfl (H6 j b (i:=3) (t:=9) (o:=3) (c:=1) Ai)
  obtain⟨z4,rfl⟩:=MY (c:=c4) rfl (H6 j b (i:=4) (t:=3) (o:=4) (c:=1) Ai)
  obtain⟨s,E,_⟩:=mA (H6 j b (i:=5) (t:=46) (o:=5) (c:=6) Ai)
  refine⟨⟨z0,C,s2,D,z4,s⟩,?_⟩
  have e:[c5,z,A,B,c9,q]=s.cells:=E
  unfold Nd.cells at e
  unfold Tm.cells
  simp only[List.cons.injEq,and_true]at e ⊢
  obtain⟨rfl,rfl,rfl,rfl,rfl,rfl⟩:=e
  simp
end
theorem AE3{H:Type}{enc:TypeId×Value->H}{W:World}{r:Reach}{J:Nat}{v:Value}{d:DataW H}{ps:List MemPlace}(y:Value.okWide prog W r J 23 v)(h:DataW.Trod enc prog W 0 (λ _=>true) true 23 v d ps):
  ∃l:Fl,Sl (PQ W) 11 l.length v (l.flatMap Tm.cells):=by
 obtain⟨a0,w,c0,rfl⟩:=okWide_slice underlying23 y
 obtain⟨fuel,h⟩:=h
 rcases open_slice underlying23 h with⟨h1,_⟩|⟨a,ln,cap,m,n,D,M,h1,_,hl,hm,A,_,hx⟩
 ·simp only[Value.cells,List.cons.injEq,Value.slice.injEq,and_true]at h1
  obtain⟨rfl,rfl,rfl⟩:=h1
  exact⟨[],Sl.nil _ 11⟩
 ·simp only[Value.cells,List.cons.injEq,Value.slice.injEq,and_true]at h1
  obtain⟨rfl,rfl,rfl⟩:=h1
  have ce:prog.cellsOf 48=11:=by kernel_rfl
  have each: ∀i,i<w-> ∃t:Tm,∀j,j<11->W.cell? ((a.add (i*11)).add j)=t.cells[j]?:=by
   intro i hi
   have B:i<m:=by rw[A,if_pos U];omega
   obtain⟨cs',z,K⟩:=hx i B
   rw[ce]at z
   obtain⟨_,_,k⟩:=World.cells?_some z
   obtain⟨t,rfl⟩:=AE2 ⟨_,K⟩
   exact⟨t,k⟩
  obtain⟨q,E⟩:=choose_lt each
  have hlen:((List.range w).map q).length=w:=by simp
  refine⟨(List.range w).map q,by rw[D5 Tm.cells 11 Tm.AS],some a,c0,by rw[hlen],by rw[hlen];exact hl,hm,λ F=>?_⟩
  ·rw[hlen]at F
   have s:a.spot=none:=by
    have h0:=E 0 F 0 Aa
    rw[Nat.zero_mul]at h0
    have e:(a.add 0).add 0=a:=rfl
    rw[e]at h0
    cases hs:a.spot with
    |none=>rfl
    |some x=>
     unfold World.cell? at h0
     rw[hs]at h0
     split at h0<;>simp[Tm.cells]at h0
   obtain⟨b,o,spot⟩:=a
   have s:spot=none:=s
   subst s
   refine⟨b,o,rfl,λ j L=>?_⟩
   rw[D5 Tm.cells 11 Tm.AS,hlen]at L
   have hi:j/11<w:=by omega
   have G:j%11<11:=by omega
   have h1:=E (j/11) hi (j%11) G
   rw[F1,F1]at h1
   have C:o+j/11*11+j%11=o+j:=by omega
   rw[C]at h1
   have z:=TE Tm.cells 11 Tm.AS ((List.range w).map q) (j/11) (j%11) (by rw[hlen];exact hi) G
   rw[show j/11*11+j%11=j from by omega]at z
   unfold PQ
   rw[h1,z]
   simp
section
variable {H:Type} {enc:TypeId×Value->H} {w:World} {base:Nat} {sp:Nat->Bool} {hd:Bool}
theorem AE4{n:Nat}{cs:List Value}(h: ∃x,DataW.trod enc prog w base sp hd n 52 cs=some x): ∃t:Tm,cs=t.cells:=by
 obtain⟨x,h⟩:=h
 obtain⟨xs,k,_,_,hl,b,j⟩:=DataW.trod_struct lY h
 have l:cs.length=11:=hl.trans Ai
 match cs,l with
 |[c0,y,c2,c3,c4,c5,z,A,B,c9,q],_=>
  obtain⟨z0,rfl⟩:=MY (c:=c0) rfl (H6 j b (i:=0) (t:=3) (o:=0) (c:=1) Ai)
  obtain⟨C,rfl⟩:=MY (c:=y) rfl (H6 j b (i:=1) (t:=3) (o:=1) (c:=1) Ai)
  obtain⟨s2,rfl,_⟩:=RW (c:=c2) rfl (H6 j b (i:=2) (t:=9) (o:=2) (c:=1) Ai)
  obtain⟨D,rfl,_⟩:=RW (c:=c3) rfl (H6 j b (i:=3) (t:=9) (o:=3) (c:=1) Ai)
  obtain⟨z4,rfl⟩:=MY (c:=c4) rfl (H6 j b (i:=4) (t:=3) (o:=4) (c:=1) Ai)
  obtain⟨s,E,_⟩:=mA (H6 j b (i:=5) (t:=46) (o:=5) (c:=6) Ai)
  refine⟨⟨z0,C,s2,D,z4,s⟩,?_⟩
  have e:[c5,z,A,B,c9,q]=s.cells:=E
  unfold Nd.cells at e
  unfold Tm.cells
  simp only[List.cons.injEq,and_true]at e ⊢
  obtain⟨rfl,rfl,rfl,rfl,rfl,rfl⟩:=e
  simp
end
theorem AE5{H:Type}{enc:TypeId×Value->H}{W:World}{r:Reach}{J:Nat}{v:Value}{d:DataW H}{ps:List MemPlace}(y:Value.okWide prog W r J 25 v)(h:DataW.Trod enc prog W 0 (λ _=>true) true 25 v d ps):
  ∃l:Fl,Sl (PQ W) 11 l.length v (l.flatMap Tm.cells):=by
 obtain⟨a0,w,c0,rfl⟩:=okWide_slice underlying25 y
 obtain⟨fuel,h⟩:=h
 rcases open_slice underlying25 h with⟨h1,_⟩|⟨a,ln,cap,m,n,D,M,h1,_,hl,hm,A,_,hx⟩
 ·simp only[Value.cells,List.cons.injEq,Value.slice.injEq,and_true]at h1
  obtain⟨rfl,rfl,rfl⟩:=h1
  exact⟨[],Sl.nil _ 11⟩
 ·simp only[Value.cells,List.cons.injEq,Value.slice.injEq,and_true]at h1
  obtain⟨rfl,rfl,rfl⟩:=h1
  have ce:prog.cellsOf 52=11:=by kernel_rfl
  have each: ∀i,i<w-> ∃t:Tm,∀j,j<11->W.cell? ((a.add (i*11)).add j)=t.cells[j]?:=by
   intro i hi
   have B:i<m:=by rw[A,if_pos U];omega
   obtain⟨cs',z,K⟩:=hx i B
   rw[ce]at z
   obtain⟨_,_,k⟩:=World.cells?_some z
   obtain⟨t,rfl⟩:=AE4 ⟨_,K⟩
   exact⟨t,k⟩
  obtain⟨q,E⟩:=choose_lt each
  have hlen:((List.range w).map q).length=w:=by simp
  refine⟨(List.range w).map q,by rw[D5 Tm.cells 11 Tm.AS],some a,c0,by rw[hlen],by rw[hlen];exact hl,hm,λ F=>?_⟩
  ·rw[hlen]at F
   have s:a.spot=none:=by
    have h0:=E 0 F 0 Aa
    rw[Nat.zero_mul]at h0
    have e:(a.add 0).add 0=a:=rfl
    rw[e]at h0
    cases hs:a.spot with
    |none=>rfl
    |some x=>
     unfold World.cell? at h0
     rw[hs]at h0
     split at h0<;>simp[Tm.cells]at h0
   obtain⟨b,o,spot⟩:=a
   have s:spot=none:=s
   subst s
   refine⟨b,o,rfl,λ j L=>?_⟩
   rw[D5 Tm.cells 11 Tm.AS,hlen]at L
   have hi:j/11<w:=by omega
   have G:j%11<11:=by omega
   have h1:=E (j/11) hi (j%11) G
   rw[F1,F1]at h1
   have C:o+j/11*11+j%11=o+j:=by omega
   rw[C]at h1
   have z:=TE Tm.cells 11 Tm.AS ((List.range w).map q) (j/11) (j%11) (by rw[hlen];exact hi) G
   rw[show j/11*11+j%11=j from by omega]at z
   unfold PQ
   rw[h1,z]
   simp
end Go.Proofs.YtnoegalemkbbbaaGreatDoor
namespace Go.Eng
open Go.RowKit Go.Lib
abbrev FO(e:TypeId)(l:List Int)(sp:List Value):Obj:=.cells (l.map (Value.int .u8)++sp).toArray e ((l.map (Value.int .u8)++sp).length,(l.map (Value.int .u8)++sp).length+1)
theorem St.cY {w0 w:World}{M0 M:Mem}{Hs:List HO}(h:St w0 M0 w M Hs)(e:TypeId)(s:A0): ∃sp,St w0 M0 (bytesWorld w e ⟨⟨s⟩⟩) M (.raw w.heap.size (FO e (ints s) sp)::Hs):=by
 have hE:Ext w (bytesWorld w e ⟨⟨s⟩⟩):=Joins.below_bytesWorld _ _ _ _ (Nat.le_refl _)
 have h1:=h.ext hE
 have k:=bytesWorld_at_new w e ⟨⟨s⟩⟩
 have l:bytesCells w e ⟨⟨s⟩⟩=((ints s).map (Value.int .u8)++(List.replicate (grownCap w s.length 0 e-s.length) (Value.int .u8 0))).toArray:=by
  apply Array.ext'
  unfold bytesCells ints
  simp
  rfl
 refine⟨List.replicate (grownCap w s.length 0 e-s.length) (.int .u8 0),h1.low,h1.sat,h1.old,λ x hx=>?_,List.pairwise_cons.2 ⟨λ y n b j=>?_,h.apart⟩⟩
 ·rcases List.mem_cons.1 hx with rfl|hx
  ·refine⟨h.size,?_,λ o=>h.P1 (Nat.le_refl _) o⟩
   rw[k,l,List.size_toArray]
  ·exact h1.ok x hx
 ·simp only[HO.E6,Option.some.injEq]at j;subst j
  intro i
  have:=(HO.ok.lt (h.ok y n) i).2
  omega
section
variable {P:Program} {C:World->Prop} {L:Env} {W:Bool} {d:Option Tmp} {ty:TypeId} {ps:String} {af:Array Edge} {gd:Option (Nat×Bool)} {w0 w:World} {M0 M:Mem} {Hs:List HO}
theorem PV.cZ {t e:TypeId}{x:Operand}{p:Option Addr}{n c:Nat}(hx:AA L W x (.slice p n c))(b:P.underlying t=some (.slice e)):PV P C L W ⟨d,.call ⟨.builtin .len,#[x],#[t]⟩,ty,ps,af,gd⟩ (i64 n):=by
 intro ac N hs h w' _
 have key:(Builtin.len_ #[t] ty #[.slice p n c]).run P w'= .ok (i64 n) w':=by
  simp[Builtin.len_,run_underlying b,goInt]
 simp only[execOp,resolve,invoke,builtin,List.map_toArray,List.map_cons,List.map_nil,hx ac N hs h,Sem.run_bind,Sem.run_pure,Result.andThen_ok,key]
theorem PV.O3 {t e:TypeId}{x y:Operand}{b n c:Nat}{k:IntKind}{i:Int}(hx:AA L W x (.slice (some ⟨b,0,none⟩) n c))(l:AA L W y (.int k i))(q:P.underlying t=some (.slice e))(hs: ∀w,(sizeOf e).run P w= .ok 1 w)
  (s:W=true->0<=i/\i<(n:Int)):PV P C L W ⟨d,.indexAddr t x y,ty,ps,af,gd⟩ (.pointer (some ⟨b,i.toNat,none⟩)):=by
 intro ac N h j w' _
 obtain⟨h0,h1⟩:=s j
 have key:(Instr.indexAt t (.slice (some ⟨b,0,none⟩) n c) (.int k i)).run P w'= .ok (.pointer (some ⟨b,i.toNat,none⟩)) w':=by
  simp[Instr.indexAt,run_underlying q,asIntOf,h0,h1,hs,F1]
 simp only[execOp,hx ac N h j,l ac N h j]
 rw[Sem.run_bind,key]
 rfl
theorem dA{l:List Int}{sp:List Value}{b j:Nat}{e:TypeId}{w:World}(h:w.heap[b]? =some (FO e l sp))(k:j<l.length):w.cell? ⟨b,j,none⟩=some (.int .u8 (at' l (j:Int))):=by
 obtain⟨h1,n⟩:=CE l (i:=(j:Int)) Aa (by unfold len;omega)
 unfold World.cell?
 rw[h]
 simp only[Option.isSome_none,Bool.false_eq_true,if_false]
 rw[n]
 simp[List.getElem?_append_left,k]
theorem PV.AE6 {t e:TypeId}{x:Operand}{q b j:Nat}{l:List Int}{sp:List Value}(hS:St w0 M0 w M Hs)(hC: ∀w',C w'->Ext w w')(hi:Hs[q]? =some (.raw b (FO e l sp)))(hx:AA L W x (.pointer (some ⟨b,j,none⟩)))(h: ∀w,(isAgg t).run P w= .ok false w)
  (i:W=true->j<l.length):PV P C L W ⟨d,.load t x,ty,ps,af,gd⟩ (.int .u8 (at' l (j:Int))):=
 .VY hx h λ k w' hw=>dA ((hS.ext (hC w' hw)).obj hi).2.1 (i k)
theorem PV.AE7 {src dst e z:TypeId}{x:Operand}{q b c n:Nat}{l:List Int}{sp:List Value}(hS:St w0 M0 w M Hs)(hC: ∀w',C w'->Ext w w')(hi:Hs[q]? =some (.raw b (FO e l sp)))(hx:AA L W x (.slice (some ⟨b,0,none⟩) n c))(E:n=l.length)
  (hs:P.underlying src=some (.slice z)) (he:P.underlying z=some (.int .u8)) (hd:P.underlying dst=some .string):PV P C L W ⟨d,.convert src dst x,ty,ps,af,gd⟩ (str (toStr l)):=by
 subst E
 intro a N A F w' B
 have k:=((hS.ext (hC w' B)).obj hi).2.1
 have s: ∀j v',(l.map (Value.int .u8))[j]? =some v'->w'.cell? ((⟨b,0,none⟩:Addr).add j)=some v':=by
  intro j v' D
  rw[F1,Nat.zero_add]
  have y:j<l.length:=by have:=(List.getElem?_eq_some_iff.1 D).1;rwa [List.length_map]at this
  rw[dA k y,<-D]
  obtain⟨h1,G⟩:=CE l (i:=(j:Int)) Aa (by unfold len;omega)
  rw[G];simp[y]
 have h:=run_loadCells_list (P:=P) w' ⟨b,0,none⟩ (l.map (Value.int .u8)) s
 rw[List.length_map]at h
 have key:(convert src dst (.slice (some ⟨b,0,none⟩) l.length c)).run P w'= .ok (str (toStr l)) w':=by
  rw[run_convert_bytes_string w' src dst z (some ⟨b,0,none⟩) l.length c hs he hd,run_bytesToString w' ⟨b,0,none⟩ l.length c l h,foldl_push]
  simp[str]
 simp only[execOp,hx a N A F]
 rw[Sem.run_bind,key];rfl
end
section
variable {P:Program} {ops:Array Oper} {Q:Exit->Act->World->Prop} {N:Nat} {rest:List Oper} {L:Env} {w0 w:World} {M0 M:Mem} {Hs:List HO} {d:Nat} {ty:TypeId} {ps:String} {af:Array Edge}
theorem RL.cY {s:A0}{src dst e:TypeId}{x:Operand}(hS:St w0 M0 w M Hs)(hx:AA L true x (str s))(hs:P.underlying src=some .string)(k:P.underlying dst=some (.slice e))(he:P.underlying e=some (.int .u8))(hd:Nat.blt d N=true)
  (h: ∀b c sp w',St w0 M0 w' M (.raw b (FO e (ints s) sp)::Hs)->RL P ops Q N rest ((d,true,.slice (some ⟨b,0,none⟩) s.length c)::L) w'):RL P ops Q N (⟨some d,.convert src dst x,ty,ps,af,none⟩::rest) L w:=by
 intro a i
 refine wpList_plain U λ K l=>?_
 have key:(execOp a.eval ⟨some d,.convert src dst x,ty,ps,af,none⟩).run P w= .ok (.value (.slice (some ⟨w.heap.size,0,none⟩) s.length (grownCap w s.length 0 e))) (bytesWorld w e ⟨⟨s⟩⟩):=by
  simp only[execOp,hx a N i U]
  rw[Sem.run_bind,Go.Lib.run_convert_string_bytes w src dst e ⟨⟨s⟩⟩ hs k he];rfl
 simp only[Oper.wp,key,Oper.upon_value]
 obtain⟨sp,j⟩:=hS.cY e s
 exact l _ _ (h _ _ sp _ j _ (i.put hd true _))
theorem RL.AE8 {t e:TypeId}{x y:Operand}{q b j:Nat}{u:Int}{l:List Int}{sp:List Value}(hS:St w0 M0 w M Hs)(hi:Hs[q]? =some (.raw b (FO e l sp)))(hx:AA L true x (.pointer (some ⟨b,j,none⟩)))(H:AA L true y (.int .u8 u))(hs: ∀w,(sizeOf t).run P w= .ok 1 w)
  (G:j<l.length) {Hs':List HO} (A:Hs.set q (.raw b (FO e (l.set j u) sp))=Hs') (h: ∀w',St w0 M0 w' M Hs'->RL P ops Q N rest L w'):RL P ops Q N (⟨none,.store t x y,ty,ps,af,none⟩::rest) L w:=by
 intro a i
 refine wpList_plain U λ K J=>?_
 obtain⟨_,n,_⟩:=hS.obj hi
 have O:j<(l.map (Value.int .u8)++sp).length:=by simp;omega
 have B:b<w.heap.size:=by
  rcases Nat.lt_or_ge b w.heap.size with C|C
  ·exact C
  ·simp[C]at n
 have s:=run_storeCells_cells (P:=P) b j [.int .u8 u] 0 w (λ k D=>by
   have:k=0:=by simpa using D
   subst this
   show(w.cell? ⟨b,j,none⟩).isSome=true
   rw[dA n G];rfl) (λ k D=>by
   have:k=0:=by simpa using D
   subst this
   show w.frozen? ⟨b,j,none⟩=false
   unfold World.frozen?
   simp only[n]
   simp only[Bool.and_eq_false_iff,decide_eq_false_iff_not]
   exact .inl Aa) (by intro v R;rw[List.mem_singleton.1 R];rfl)
 have S:w.setCells b (j+0) [.int .u8 u]=w.putObj b (FO e (l.set j u) sp):=by
  show w.setCell ⟨b,j+0,none⟩ (.int .u8 u)=_
  unfold World.setCell World.putObj
  congr 1
  apply Array.ext
  ·simp
  ·intro k T E
   simp only[Array.getElem_modify]
   have F:w.heap[b]=FO e l sp:=by rw[Array.getElem?_eq_getElem B]at n;exact Option.some.inj n
   by_cases hkb:b=k
   ·subst hkb
    simp only[if_true,F,Option.isSome_none,Bool.false_eq_true,if_false]
    have hl:(l.set j u).map (Value.int .u8)=(l.map (Value.int .u8)).set j (.int .u8 u):=List.map_set
    simp only[FO,hl,List.length_append,List.length_set,List.length_map,Nat.add_zero]
    congr 1
    simp[Array.getElem_setIfInBounds,List.set_append_left,G]
   ·rw[if_neg hkb];exact(Array.getElem_setIfInBounds_ne (by simpa using E) hkb).symm
 rw[S]at s
 have key:(Instr.storeAt t (.pointer (some ⟨b,j,none⟩)) (.int .u8 u)).run P w= .ok () (w.putObj b (FO e (l.set j u) sp)):=by
  have V:(Value.int .u8 u).cells= #[.int .u8 u]:=rfl
  simp only[Instr.storeAt,Instr.sureAddr,storeVar,Sem.run_bind,Sem.run_pure,Result.andThen_ok,hs,V,List.size_toArray,List.length_singleton,ne_eq,not_true_eq_false,if_false,s]
 have z:(execOp a.eval ⟨none,.store t x y,ty,ps,af,none⟩).run P w= .ok .skip (w.putObj b (FO e (l.set j u) sp)):=by
  simp only[execOp,hx a N i U,H a N i U];rw[Sem.run_bind,key];rfl
 simp only[Oper.wp,z,Oper.upon_skip]
 exact J _ _ (h _ (A▸hS.RD hi (FO e (l.set j u) sp)) _ i)
end
theorem mB{P:Program}{w w':World}{q sT ty e:TypeId}{sz b i h k:Nat}{d a:Addr}{cs:List Value}(hu:P.underlying q=some (.slice e))(hs: ∀w,(sizeOf e).run P w= .ok sz w)(hl:cs.length=Nat.min h b*sz)
  (s: ∀j u,cs[j]? =some u->w.cell? (a.add j)=some u) (n:(storeCells d cs 0).run P w= .ok () w'):
  (Builtin.copy_ #[q,sT] ty #[.slice (some d) b i,.slice (some a) h k]).run P w= .ok (goInt (Nat.min h b)) w':=by
 have l:=run_loadCells_list (P:=P) w a cs s
 rw[hl]at l
 simp[Builtin.copy_,run_underlying hu,Builtin.lenOf,Builtin.firstCells,hs,l,n]
section st
variable {w0 w:World} {M0 M:Mem} {Hs:List HO} {k:Nat} {e:TypeId} {sz n c g:Nat} {xs:List Value}
theorem St.AE9 (h:St w0 M0 w M Hs)(b:Hs[k]? =some (.priv e sz (.slice (some ⟨g,0,none⟩) n c) n xs)){o j:Nat}{u:Value}(hu:(xs.drop o)[j]? =some u):w.cell? ((⟨g,o,none⟩:Addr).add j)=some u:=by
 rw[List.getElem?_drop]at hu
 have:=(h.obj b).1.cells (g:=g) U (o+j) u hu
 rw[F1]at this ⊢
 rwa [Nat.zero_add]at this
theorem St.AF0 {P:Program}(h:St w0 M0 w M Hs)(s:Hs[k]? =some (.priv e sz (.slice (some ⟨g,0,none⟩) n c) n xs)){y sT ty:TypeId}(hu:P.underlying y=some (.slice e))(hs: ∀w,(sizeOf e).run P w= .ok sz w){o b l i q:Nat}{a:Addr}{cs:List Value}
  (hl:cs.length=Nat.min i b*sz) (z: ∀j u,cs[j]? =some u->w.cell? (a.add j)=some u) (ho:o+cs.length<=xs.length) (h1: ∀u∈cs,u.oneCell'=true):
  ∃w',(Builtin.copy_ #[y,sT] ty #[.slice (some ⟨g,o,none⟩) b l,.slice (some a) i q]).run P w= .ok (goInt (Nat.min i b)) w'/\St w0 M0 w' M (Hs.set k (.priv e sz (.slice (some ⟨g,0,none⟩) n c) n (BY xs o cs))):=by
 rcases Nat.eq_zero_or_pos cs.length with h0|h0
 ·obtain rfl:cs=[]:=List.eq_nil_of_length_eq_zero h0
  refine⟨w,mB hu hs hl z U,?_⟩
  have:BY xs o []=xs:=by simp[BY]
  rw[this]
  have A:Hs.set k (.priv e sz (.slice (some ⟨g,0,none⟩) n c) n xs)=Hs:=by
   obtain⟨h1,B⟩:=List.getElem?_eq_some_iff.1 s
   rw[<-B];exact List.set_getElem_self h1
  rw[A];exact h
 ·obtain⟨w',hw,hS⟩:=h.WB (P:=P) (us:=cs) (o:=o) s ho h0 h1
  exact⟨w',mB hu hs hl z (by simpa[sb,so]using hw),hS⟩
theorem St.wide (h:St w0 M0 w M Hs)(B:Hs[k]? =some (.priv e sz (.slice (some ⟨g,0,none⟩) n c) n xs)){m:Nat}(hm:n+m<=c):
  ∃ys,ys.length=m*sz/\St w0 M0 w M (Hs.set k (.priv e sz (.slice (some ⟨g,0,none⟩) (n+m) c) (n+m) (xs++ys))):=by
 obtain⟨⟨hl,i⟩,j⟩:=h.obj B
 rcases i with⟨i,_⟩|⟨E,cap,cur,i,hg,C,D,s,l,y⟩
 ·cases i
 ·cases i
  have hle:(n+m)*sz<=cur.toList.length:=by rw[Array.length_toList,l];exact Nat.mul_le_mul_right _ hm
  have z:(n+m)*sz=n*sz+m*sz:=Nat.add_mul _ _ _
  have q:xs++(cur.toList.drop (n*sz)).take (m*sz)=cur.toList.take ((n+m)*sz):=by
   rw[<-y,z,List.take_add]
  refine⟨(cur.toList.drop (n*sz)).take (m*sz),by rw[List.length_take,List.length_drop];omega,?_⟩
  refine h.write B (Below.refl _ _) h.sat (λ _ _ _=>rfl) (λ _ _ _=>rfl) (λ _ _ _ _=>rfl) ⟨⟨?_,.inr ⟨g,c,cur,rfl,hg,C,hm,s,l,q.symm⟩⟩,λ b A o=>j b A o⟩ (λ _ A=>.inl A)
  rw[q,List.length_take];omega
theorem St.AF1 {P:Program}(h:St w0 M0 w M Hs)(T:Hs[k]? =some (.priv e sz (.slice (some ⟨g,0,none⟩) n c) n xs)){t G ty:TypeId}{i:TypeInfo}{z:Value}{kn:IntKind}(V:P.underlying t=some (.slice e))(H:P.underlying G=some (.int kn))(hi:P.info? e=some i)(W:i.zero=some z)(A:i.size=sz)(B:z.cells.size=sz)(J:0<sz)
  {s q:Nat} (hs:s<=n) (h0:0<q) (hg:c<s+q) (D:s+q<=maxLen) (C:(s+q)*i.bytes<=140737488355328):
  ∃K S zs w',(Builtin.append_ #[t,G] ty #[.slice (some ⟨g,0,none⟩) s c,.int .i64 q]).run P w= .ok (.slice (some ⟨K,0,none⟩) (s+q) S) w'/\zs.length=q*sz/\K≠g/\
   St w0 M0 w' M (.priv e sz (.slice (some ⟨K,0,none⟩) (s+q) S) (s+q) (xs.take (s*sz)++zs)::Hs):=by
 subst A
 have l:=(h.obj T).1
 have X:=(l.lt g U).2
 have L:s*i.size<=xs.length:=by rw[l.1];exact Nat.mul_le_mul_right _ hs
 have hold:(Builtin.firstCells i.size s (.slice (some ⟨g,0,none⟩) s c)).run P w.drew= .ok (xs.take (s*i.size)).toArray w.drew:=
  run_firstCells_some w.drew i.size s ⟨g,0,none⟩ s c (xs.take (s*i.size)) (by rw[List.length_take];omega) (λ j u F=>by
   rw[List.getElem?_take]at F
   split at F
   ·exact l.cells (g:=g) U j u F
   ·cases F)
 have N:((s+q:Nat):Int)<=9223372036854775807:=by simp only[maxLen]at D;omega
 have hqb:q*i.bytes<=(s+q)*i.bytes:=Nat.mul_le_mul_right _ (Nat.le_add_left _ _)
 have hr:=Lib.run_append_grow_zeros w t G ty e i z .i64 kn V H hi W (some ⟨g,0,none⟩) s c (xs.take (s*i.size)) hold q h0 J hg N Aa (growslice_fits hg C)
 refine⟨_,_,(Builtin.zeroCells z.cells q).toList,_,hr,by rw[Array.length_toList,size_zeroCells,B],Aa,?_⟩
 have O:=grownCap_ge w (s+q) c e
 have Q:grownCap w (s+q) c e<=maxLen:=grownCap_le_maxLen w (s+q) c e D
 have h1:=h.ext (((Ext.drew w)).trans (Ext.alloc w.drew (.cells ((xs.take (s*i.size)).toArray++Builtin.zeroCells z.cells q++Builtin.zeroCells z.cells (grownCap w (s+q) c e-(s+q))) e)))
 have E:(xs.take (s*i.size)++(Builtin.zeroCells z.cells q).toList).length=(s+q)*i.size:=by
  simp only[List.length_append,Array.length_toList,size_zeroCells,B,List.length_take,Nat.add_mul];omega
 refine⟨h1.low,h1.sat,h1.old,λ x hx=>?_,List.pairwise_cons.2 ⟨λ y hy b C=>?_,h.apart⟩⟩
 ·rcases List.mem_cons.1 hx with rfl|hx
  ·refine⟨⟨E,.inr ⟨w.heap.size,_,_,rfl,h.size,heap_alloc_new w.drew _,O,Q,?_,?_⟩⟩,λ b C o=>?_⟩
   ·simp only[Array.size_append,List.size_toArray,size_zeroCells,B,List.length_take,Nat.min_eq_left L,<-Nat.add_mul]
    congr 1
    omega
   ·simp only[Array.toList_append]
    rw[<-E]
    exact List.take_left
   ·simp only[Value.ownBlock,Option.some.injEq]at C;subst C
    exact h.P1 (Nat.le_refl _) o
  ·exact h1.ok x hx
 ·simp only[HO.E6,Value.ownBlock,Option.some.injEq]at C;subst C
  intro R
  have:=(HO.ok.lt (h.ok y hy) R).2
  omega
end st
section
variable {P:Program} {C:World->Prop} {L:Env} {W:Bool} {d:Option Tmp} {ty:TypeId} {ps:String} {af:Array Edge} {gd:Option (Nat×Bool)}
theorem PV.AF2 {t e:TypeId}{x:Operand}{p:Option Addr}{n c:Nat}(hx:AA L W x (.slice p n c))(b:P.underlying t=some (.slice e)):PV P C L W ⟨d,.call ⟨.builtin .cap,#[x],#[t]⟩,ty,ps,af,gd⟩ (i64 c):=by
 intro ac N hs h w' _
 have key:(Builtin.cap_ #[t] ty #[.slice p n c]).run P w'= .ok (i64 c) w':=by
  simp[Builtin.cap_,run_underlying b,goInt]
 simp only[execOp,resolve,invoke,builtin,List.map_toArray,List.map_cons,List.map_nil,hx ac N hs h,Sem.run_bind,Sem.run_pure,Result.andThen_ok,key]
theorem PV.AF3 {t e:TypeId}{x y:Operand}{g n c sz:Nat}{k:IntKind}{a:Int}(v:Value)(hx:AA L W x (.slice (some ⟨g,0,none⟩) n c))(q:AA L W y (.int k a))(i:P.underlying t=some (.slice e))(hs: ∀w,(sizeOf e).run P w= .ok sz w)
  (l:0<=a/\a<=(n:Int)) (j:(if c=a.toNat then v= .slice (some ⟨g,0,none⟩) (n-a.toNat) (c-a.toNat)else v= .slice (some ⟨g,a.toNat*sz,none⟩) (n-a.toNat) (c-a.toNat))):
  PV P C L W ⟨d,.slice t x (some y) none none,ty,ps,af,gd⟩ v:=by
 refine .kI hx q λ k w=>?_
 have b:P.underlying t=some (.slice (P.elem t)):=by rw[J3 i];exact i
 rw[run_sliceAt_slice w t _ _ _ _ b,run_slice_l w t _ n c b k a l.1 l.2,J3 i,hs]
 simp only[Result.andThen_ok,sliced]
 split at j
 ·rename_i h;rw[j,if_pos h]
 ·rename_i h;rw[j,if_neg h];simp[F1]
theorem PV.AF4 {t e:TypeId}{x z:Operand}{g n c sz:Nat}{k:IntKind}{b:Int}(hx:AA L W x (.slice (some ⟨g,0,none⟩) n c))(l:AA L W z (.int k b))(i:P.underlying t=some (.slice e))(hs: ∀w,(sizeOf e).run P w= .ok sz w)
  (j:0<=b/\b<=(c:Int)):PV P C L W ⟨d,.slice t x none (some z) none,ty,ps,af,gd⟩ (.slice (some ⟨g,0,none⟩) b.toNat c):=by
 refine .kH hx l λ k w=>?_
 have h:P.underlying t=some (.slice (P.elem t)):=by rw[J3 i];exact i
 rw[run_sliceAt_slice w t _ _ _ _ h,run_slice_h w t _ n c h k b j.1 j.2,J3 i,hs]
 simp[Result.andThen_ok,sliced,F1]
theorem PV.ext {f:FuncId}{xs:List Operand}{vs:List Value}{tys:Array TypeId}{u:Value}(hx:EE L W xs vs)(e:W=true-> ∀w,C w->(callFunc f vs.toArray).run P w= .ok (.value u) w):PV P C L W ⟨d,.call ⟨.value (.func f),xs.toArray,tys⟩,ty,ps,af,gd⟩ u:=by
 intro ac N hs b w' hw
 have h:xs.toArray.map ac.eval=vs.toArray:=by rw[List.map_toArray,EE.map hs b xs vs hx]
 have e2:ac.eval (.func f)= .func (.func f) #[] #[]:=rfl
 simp only[execOp,resolve,h,e2,Deferred.ofValue,invoke,Sem.run_bind,Sem.run_pure,Result.andThen_ok]
 simpa using e b w' hw
end
section
variable {P:Program} {ops:Array Oper} {Q:Exit->Act->World->Prop} {N:Nat} {rest:List Oper} {L:Env} {w0 w:World} {M0 M:Mem} {Hs:List HO} {d:Nat} {ty:TypeId} {ps:String} {af:Array Edge}
theorem RL.AF5 {x y:Operand}{v1 v2 v':Value}{tys:Array TypeId}{w':World}(hx:AA L true x v1)(e:AA L true y v2)(i:(Builtin.copy_ tys ty #[v1,v2]).run P w= .ok v' w')(hd:Nat.blt d N=true)
  (h:RL P ops Q N rest ((d,true,v')::L) w'):RL P ops Q N (⟨some d,.call ⟨.builtin .copy,#[x,y],tys⟩,ty,ps,af,none⟩::rest) L w:=by
 intro a b
 refine wpList_plain U λ K j=>?_
 have key:(execOp a.eval ⟨some d,.call ⟨.builtin .copy,#[x,y],tys⟩,ty,ps,af,none⟩).run P w= .ok (.value v') w':=by
  simp only[execOp,resolve,invoke,builtin,Sem.run_bind,Sem.run_pure,Result.andThen_ok,List.map_toArray,List.map_cons,List.map_nil,hx a N b U,e a N b U,i]
 simp only[Oper.wp,key,Oper.upon_value]
 exact j _ _ (h _ (b.put hd true _))
theorem RL.dB {x y:Operand}{v1 v2 v':Value}{tys:Array TypeId}{w':World}(hx:AA L true x v1)(e:AA L true y v2)(i:(Builtin.append_ tys ty #[v1,v2]).run P w= .ok v' w')(hd:Nat.blt d N=true)
  (h:RL P ops Q N rest ((d,true,v')::L) w'):RL P ops Q N (⟨some d,.call ⟨.builtin .append,#[x,y],tys⟩,ty,ps,af,none⟩::rest) L w:=by
 intro a b
 refine wpList_plain U λ K j=>?_
 have key:(execOp a.eval ⟨some d,.call ⟨.builtin .append,#[x,y],tys⟩,ty,ps,af,none⟩).run P w= .ok (.value v') w':=by
  simp only[execOp,resolve,invoke,builtin,Sem.run_bind,Sem.run_pure,Result.andThen_ok,List.map_toArray,List.map_cons,List.map_nil,hx a N b U,e a N b U,i]
 simp only[Oper.wp,key,Oper.upon_value]
 exact j _ _ (h _ (b.put hd true _))
end
theorem AF6{P:Program}{w:World}{t t2 e e2 ty:TypeId}{p:Option Addr}{n c sz:Nat}{x:Value}(h:P.underlying t=some (.slice e))(b:P.underlying t2=some (.slice e2))(hs: ∀w,(sizeOf e).run P w= .ok sz w):(Builtin.append_ #[t,t2] ty #[.slice p n c,x]).run P w=(Builtin.append_ #[t,t] ty #[.slice p n c,x]).run P w:=by
 simp[Builtin.append_,run_underlying h,run_underlying b,hs]
theorem St.rowAt {w0 w:World}{M0 M:Mem}{Hs:List HO}(h:St w0 M0 w M Hs){i:Nat}{e:TypeId}{sz g n c:Nat}{xs:List Value}(y:Hs[i]? =some (.priv e sz (.slice (some ⟨g,0,none⟩) n c) n xs)):
  w.shape? g=some (e,c*sz)/\(∀o,w.frozen? ⟨g,o,none⟩=false)/\xs.length=n*sz/\n<=c/\c<=maxLen:=by
 obtain⟨⟨hl,b⟩,q⟩:=h.obj y
 rcases b with⟨b,_⟩|⟨A,cap,cur,b,hg,s,j,k,l,z⟩
 ·cases b
 ·cases b
  refine⟨by unfold World.shape?;rw[s];simp only[l],λ o=>?_,hl,j,k⟩
  unfold World.frozen?
  simp only[s]
  simp
theorem St.AF7 {P:Program}{w0 w:World}{M0 M:Mem}{Hs:List HO}(h:St w0 M0 w M Hs){i j:Nat}{e e2 k tR l:TypeId}{sz q g g2 n c z c2 o o2 la ca lb cb b:Nat}{xs ys:List Value}(h1:Hs[i]? =some (.priv e sz (.slice (some ⟨g,0,none⟩) n c) n xs))(A:Hs[j]? =some (.priv e2 q (.slice (some ⟨g2,0,none⟩) z c2) z ys))(s:i≠j)
  (G:0<c*sz) (C:P.underlying k=some (.slice l)) (D: ∀w,(Go.sizeOf l).run P w= .ok b w):
  (Extern.SlicesOverlaps.overlaps #[k,k] #[tR] #[.slice (some ⟨g2,o2,none⟩) la ca,.slice (some ⟨g,o,none⟩) lb cb]).run P w= .ok (.bool false) w:=by
 obtain⟨E,a2,_⟩:=h.rowAt h1
 obtain⟨F,B,_⟩:=h.rowAt A
 have y:g2≠g:=λ e=>TB h.apart h1 A s g U (by simp[HO.E6,Value.ownBlock,e])
 exact run_overlaps_apart w k tR l C b D ⟨g2,o2,none⟩ ⟨g,o,none⟩ la ca lb cb y _ _ _ _ F E Aa (B _) (B _)
section
variable {c:Cx} {B:Exit->Act->World->Prop} {k k':List Fr} {m:Md} {s s':XS} {O:Prop} {E:List Ck} {all:Array Oper} {rest:List Oper} {d:Nat} {ty:TypeId} {ps:String} {af:Array Edge}
variable {e:TypeId} {sz g n cp:Nat} {xs:List Value}
theorem RX{F:List (Nat×Kn)}{H:List (Nat×HX)}{w:World}{M:Mem}(b:CZ c F H w M){kk o j:Nat}{u:Value}(h:CY H kk=some (.ho (.priv e sz (.slice (some ⟨g,0,none⟩) n cp) n xs)))(hu:(xs.drop o)[j]? =some u):w.cell? ((⟨g,o,none⟩:Addr).add j)=some u:=by
 obtain⟨q,i,_⟩:=DK (Hr:=c.Hr) h
 exact b.st.AE9 i hu
def O4(g n cp sz a:Nat):Value:=if cp=a then .slice (some ⟨g,0,none⟩) (n-a) (cp-a)else .slice (some ⟨g,a*sz,none⟩) (n-a) (cp-a)
theorem PS{g n cp sz a:Nat}(h:cp≠a):O4 g n cp sz a= .slice (some ⟨g,a*sz,none⟩) (n-a) (cp-a):=if_neg h
theorem EA{C:World->Prop}{L:XE}{W:Gd}{h:Option Tmp}{gd:Option (Nat×Bool)}(a:Nat){b:Int}{v:Value}{t:TypeId}{x y:Operand}{i:IntKind}{E1 E2:List Ck}(hx:BB L W x=some (.v (.slice (some ⟨g,0,none⟩) n cp),E1))(j:BB L W y=some (.v (.int i b),E2))
  (k:c.P.underlying t=some (.slice e)) (hs: ∀w,(sizeOf e).run c.P w= .ok sz w) (s:a<=n) (l:b=(a:Int)) (q:v=O4 g n cp sz a) (hE1:A9 E1:=by exact Ad) (hE2:A9 E2:=by exact Ad):PV c.P C L.d W.d ⟨h,.slice t x (some y) none none,ty,ps,af,gd⟩ (XV.v v).d:=by
 subst l
 refine PV.AF3 v (A7 hx (hE:=hE1)) (A7 j (hE:=hE2)) k hs Aa ?_
 rw[Int.toNat_natCast,q]
 unfold O4
 split<;>rfl
theorem XK{C:World->Prop}{L:XE}{W:Gd}{h:Option Tmp}{gd:Option (Nat×Bool)}(b:Nat){bi:Int}{t:TypeId}{x z:Operand}{i:IntKind}{E1 E2:List Ck}(hx:BB L W x=some (.v (.slice (some ⟨g,0,none⟩) n cp),E1))(j:BB L W z=some (.v (.int i bi),E2))
  (k:c.P.underlying t=some (.slice e)) (hs: ∀w,(sizeOf e).run c.P w= .ok sz w) (q:b<=cp) (l:bi=(b:Int)) (hE1:A9 E1:=by exact Ad) (hE2:A9 E2:=by exact Ad):PV c.P C L.d W.d ⟨h,.slice t x none (some z) none,ty,ps,af,gd⟩ (XV.v (.slice (some ⟨g,0,none⟩) b cp)).d:=by
 subst l
 have:=PV.AF4 (C:=C) (W:=W.d) (L:=L.d) (d:=h) (ty:=ty) (ps:=ps) (af:=af) (gd:=gd) (A7 hx (hE:=hE1)) (A7 j (hE:=hE2)) k hs Aa
 rwa [Int.toNat_natCast]at this
theorem O5{C:World->Prop}{L:XE}{W:Gd}{b:Option Tmp}{gd:Option (Nat×Bool)}{p:Option Addr}{t:TypeId}{x:Operand}{E1:List Ck}(hx:BB L W x=some (.v (.slice p n cp),E1))(h:c.P.underlying t=some (.slice e))(hE1:A9 E1:=by exact Ad):PV c.P C L.d W.d ⟨b,.call ⟨.builtin .len,#[x],#[t]⟩,ty,ps,af,gd⟩ (I (n:Int)).d:=PV.cZ (A7 hx (hE:=hE1)) h
theorem AF8{C:World->Prop}{L:XE}{W:Gd}{b:Option Tmp}{gd:Option (Nat×Bool)}{p:Option Addr}{t:TypeId}{x:Operand}{E1:List Ck}(hx:BB L W x=some (.v (.slice p n cp),E1))(h:c.P.underlying t=some (.slice e))(hE1:A9 E1:=by exact Ad):PV c.P C L.d W.d ⟨b,.call ⟨.builtin .cap,#[x],#[t]⟩,ty,ps,af,gd⟩ (I (cp:Int)).d:=PV.AF2 (A7 hx (hE:=hE1)) h
theorem XL(kk o:Nat){cs:List Value}{t t2:TypeId}{x y:Operand}{dl A sl C:Nat}{a:Addr}{E1:List Ck}(h:run c.T c.N k m s=⟨k',.ops all (⟨some d,.call ⟨.builtin .copy,#[x,y],#[t,t2]⟩,ty,ps,af,none⟩::rest),s',O,E⟩)
  (hx:H0 s'.L .t x y=some (.v (.slice (some ⟨g,o,none⟩) dl A),.v (.slice (some a) sl C),E1)) (D:CY s'.H kk=some (.ho (.priv e sz (.slice (some ⟨g,0,none⟩) n cp) n xs)))
  (G:c.P.underlying t=some (.slice e)) (hs: ∀w,(sizeOf e).run c.P w= .ok sz w) (hl:cs.length=Nat.min sl dl*sz) (J: ∀w M,CZ c s'.F s'.H w M-> ∀j u,cs[j]? =some u->w.cell? (a.add j)=some u) (ho:o+cs.length<=xs.length) (h1: ∀u∈cs,u.oneCell'=true)
  (K:XG c B k' (.ops all rest) ⟨s'.F,C8 s'.H kk (.ho (.priv e sz (.slice (some ⟨g,0,none⟩) n cp) n (BY xs o cs))),(d,.t,.v (goInt (Nat.min sl dl)))::s'.L⟩) (hE:A9 E:=by exact Ad) (hO:O:=by exact Af) (hE1:A9 E1:=by exact Ad) (hd:Nat.blt d c.N=true:=by exact rfl):XG c B k m s:=by
 refine DC h (hE:=hE) (hO:=hO) λ w M i=>?_
 obtain⟨q,Q,b⟩:=DK (Hr:=c.Hr) D
 obtain⟨l,z⟩:=FE hx hE1
 obtain⟨w',R,hS⟩:=i.st.AF0 (P:=c.P) (ty:=ty) Q (sT:=t2) G hs hl (J w M i) ho h1
 exact RL.AF5 l z R hd (DD K ⟨by rw[b];exact hS,i.f,i.le⟩ U)
theorem AF9(kk q:Nat)(i:CY s.H kk=some (.ho (.priv e sz (.slice (some ⟨g,0,none⟩) n cp) n xs)))(hm:n+q<=cp)
  (l: ∀ys,ys.length=q*sz->XG c B k m ⟨s.F,C8 s.H kk (.ho (.priv e sz (.slice (some ⟨g,0,none⟩) (n+q) cp) (n+q) (xs++ys))),s.L⟩):XG c B k m s:=by
 intro a w ⟨h1,M,h⟩
 obtain⟨j,y,b⟩:=DK (Hr:=c.Hr) i
 obtain⟨ys,z,hS⟩:=h.st.wide y hm
 exact l ys z a w ⟨h1,M,by rw[b];exact hS,h.f,h.le⟩
theorem AG0(kk X:Nat){t V:TypeId}{x y:Operand}{i:TypeInfo}{z:Value}{C:IntKind}{r q:Nat}{W:Int}{E1:List Ck}(h:run c.T c.N k m s=⟨k',.ops all (⟨some d,.call ⟨.builtin .append,#[x,y],#[t,V]⟩,ty,ps,af,none⟩::rest),s',O,E⟩)
  (hx:H0 s'.L .t x y=some (.v (.slice (some ⟨g,0,none⟩) r cp),.v (.int .i64 W),E1)) (D:W=(q:Int)) (hk:CY s'.H kk=some (.ho (.priv e sz (.slice (some ⟨g,0,none⟩) n cp) n xs)))
  (ht:c.P.underlying t=some (.slice e)) (G:c.P.underlying V=some (.int C)) (hi:c.P.info? e=some i) (hz:i.zero=some z) (hs:(i.size,z.cells.size,Nat.blt 0 sz,Nat.blt d c.N)=(sz,sz,true,true)) (hr:r<=n) (h0:0<q) (hg:cp<r+q) (J:r+q<=maxLen) (hb:(r+q)*i.bytes<=140737488355328)
  (hn: ∀A b zs,zs.length=q*sz->r+q<=b->XG c B k' (.ops all rest) ⟨s'.F,(X,.ho (.priv e sz (.slice (some ⟨A,0,none⟩) (r+q) b) (r+q) (xs.take (r*sz)++zs)))::s'.H,(d,.t,.v (.slice (some ⟨A,0,none⟩) (r+q) b))::s'.L⟩) (hE:A9 E:=by exact Ad) (hO:O:=by exact Af) (hE1:A9 E1:=by exact Ad):XG c B k m s:=by
 simp only[Prod.mk.injEq,Nat.blt_eq]at hs
 obtain⟨s1,s2,s3,s4⟩:=hs
 subst D
 refine DC h (hE:=hE) (hO:=hO) λ w M K=>?_
 obtain⟨j,hj,_⟩:=DK (Hr:=c.Hr) hk
 obtain⟨Q,R⟩:=FE hx hE1
 obtain⟨A,b,zs,w',l,S,_,hS⟩:=K.st.AF1 (P:=c.P) (ty:=ty) (s:=r) (q:=q) hj ht G hi hz s1 s2 s3 hr h0 hg J hb
 exact RL.dB Q R l (by rw[Nat.blt_eq];exact s4) (DD (hn A b zs S (hS.rowAt (i:=0) U).2.2.2.1) ⟨hS,K.f,K.le⟩ U)
theorem AG1(kk G:Nat){t t2 e2 e3:TypeId}{x y:Operand}{i:TypeInfo}{z vx:Value}{p:Option Addr}{q:Nat}{cs:List Value}{E1:List Ck}(h:run c.T c.N k m s=⟨k',.ops all (⟨some d,.call ⟨.builtin .append,#[x,y],#[t,t2]⟩,ty,ps,af,none⟩::rest),s',O,E⟩)
  (hx:H0 s'.L .t x y=some (.v (.slice p n cp),.v vx,E1)) (J:CY s'.H G=some (.ho (.priv e3 sz vx q cs))) (hk:CY (C8 s'.H G (.ho (.own e3 sz vx q cs))) kk=some (.ho (.priv e sz (.slice p n cp) n xs)))
  (ht:c.P.underlying t=some (.slice e)) (K: ∀w,(sizeOf e).run c.P w= .ok sz w) (Q:c.P.underlying t2=some (.slice e2)) (hi:c.P.info? e=some i) (hz:i.zero=some z) (hs:(i.size,z.cells.size,Nat.blt d c.N)=(sz,sz,true)) (h1: ∀u∈cs,u.oneCell'=true) (R:n+q<=maxLen) (hb:(n+q)*i.bytes<=140737488355328)
  (hn: ∀v',XG c B k' (.ops all rest) ⟨s'.F,C8 (C8 s'.H G (.ho (.own e3 sz vx q cs))) kk (.ho (.priv e sz v' (n+q) (xs++cs))),(d,.t,.v v')::s'.L⟩) (hE:A9 E:=by exact Ad) (hO:O:=by exact Af) (hE1:A9 E1:=by exact Ad):XG c B k m s:=by
 simp only[Prod.mk.injEq]at hs
 obtain⟨s1,s2,s3⟩:=hs
 refine DC h (hE:=hE) (hO:=hO) λ w M S=>?_
 obtain⟨j2,C,b⟩:=DK (Hr:=c.Hr) J
 obtain⟨M',V,hle⟩:=S.st.show C
 have D:St c.w0 c.M0 w M' (HD (C8 s'.H G (.ho (.own e3 sz vx q cs)))++c.Hr):=by rw[b];exact V
 have W:Sl M' sz q vx cs:=D.sl (i:=j2) (by rw[b,List.getElem?_set_self (List.getElem?_eq_some_iff.1 C).1];rfl)
 obtain⟨j,hj,A⟩:=DK (Hr:=c.Hr) hk
 obtain⟨X,hx2⟩:=FE hx hE1
 obtain⟨v',w',l,hS⟩:=D.jK (P:=c.P) (ty:=ty) hj W ht hi hz s1 s2 h1 R hb
 rw[<-AF6 ht Q K]at l
 exact RL.dB X hx2 l s3 (DD (hn v') ⟨by rw[A];exact hS,λ x hx=>(S.f x hx).mono hle,S.le.trans hle⟩ U)
end
section
variable {c:Cx} {B:Exit->Act->World->Prop} {k k':List Fr} {m:Md} {s s':XS} {O:Prop} {E:List Ck} {all:Array Oper} {rest tail:List Oper} {d:Nat} {ty:TypeId} {ps:String} {af:Array Edge}
def XT(c:Cx)(B:Exit->Act->World->Prop)(k:List Fr)(all:Array Oper)(tail l:List Oper)(s:XS):Prop:= ∀w1 M,CZ c s.F s.H w1 M->RS c.P all w1 c.N (λ a'=>wpList c.P all (post c B k) tail a' w1) l s.L.d
theorem XM(n:Nat){id:Nat}{l:List Oper}(h:run c.T c.N k m s=⟨k',.code (.region id ⟨l⟩ true),s',O,E⟩)(hm:c.P.follows .mixedOrders=true)(i:Region.lexTailB .any l.toArray n=true)
  (j:XT c B k' l.toArray (l.drop n) (l.take n) s') (b:c.W.plain:=by exact True.intro) (hE:A9 E:=by exact AG rfl) (hO:O:=by exact Af):XG c B k m s:=
 CL h hE hO λ a w ⟨h1,M,e⟩=>c.W.draw b (CW.xD n e.st hm i (λ w1 hS=>j w1 M ⟨hS,e.f,e.le⟩) a h1)
theorem O6{op:Op}{l:List Oper}{F:List (Nat×Kn)}{H:List (Nat×HX)}{L L':XE}{gd:Option (Nat×Bool)}{W:Gd}(v:XV)(h:J4 c.T c.N F H all l L ((0:Int)=0) []=⟨⟨some d,op,ty,ps,af,gd⟩::rest,L',O,E⟩)(hg:(H3 all L' gd,Nat.blt d c.N)=(some W,true))
  (hp: ∀w M,CZ c F H w M->PV c.P (· =w) L'.d W.d ⟨some d,op,ty,ps,af,gd⟩ v.d) (e:XT c B k all tail rest ⟨F,H,(d,W,v)::L'⟩) (hE:A9 E:=by exact Ad) (hO:O:=by exact Af):XT c B k all tail l ⟨F,H,L⟩:=by
 simp only[Prod.mk.injEq]at hg
 intro w M b
 have:=bZ (all:=all) b (post:=λ a'=>wpList c.P all (post c B k) tail a' w) (l:=l) (L:=L) (O:=(0:Int)=0) (E:=[])
 rw[h]at this
 exact(this hO hE (RS.v (LF hg.1) (hp w M b) hg.2 (e w M b))).2.2
theorem XN(hl: ∀ops Q l a w,c.W.list ops Q l a w->wpList c.P ops Q l a w){l:List Oper}{F:List (Nat×Kn)}{H:List (Nat×HX)}{L L':XE}(h:J4 c.T c.N F H all l L ((0:Int)=0) []=⟨[],L',O,E⟩)(e:XG c B k (.ops all tail) ⟨F,H,L'⟩)(hE:A9 E:=by exact Ad)(hO:O:=by exact Af):XT c B k all tail l ⟨F,H,L⟩:=by
 intro w M b
 have:=bZ (all:=all) b (post:=λ a'=>wpList c.P all (post c B k) tail a' w) (l:=l) (L:=L) (O:=(0:Int)=0) (E:=[])
 rw[h]at this
 exact(this hO hE (RS.nil λ a hs=>hl _ _ _ _ _ (e a w ⟨hs,M,b⟩))).2.2
end
section
variable {P:Program} {C:World->Prop} {L:Env} {W:Bool} {d:Option Tmp} {ty:TypeId} {ps:String} {af:Array Edge} {gd:Option (Nat×Bool)}
theorem PV.mC {t e:TypeId}{x y z u:Operand}{g n c sz:Nat}{k k' s:IntKind}{a b m:Int}(v:Value)(hx:AA L W x (.slice (some ⟨g,0,none⟩) n c))(A:AA L W y (.int k a))(B:AA L W z (.int k' b))(hu:AA L W u (.int s m))(q:P.underlying t=some (.slice e))(hs: ∀w,(sizeOf e).run P w= .ok sz w)
  (j:0<=a/\a<=b/\b<=m/\m<=(c:Int)) (D:v=sliced (some ⟨g,0,none⟩) a.toNat b.toNat m.toNat sz):
  PV P C L W ⟨d,.slice t x (some y) (some z) (some u),ty,ps,af,gd⟩ v:=by
 intro ac N h l w _
 simp only[execOp,hx ac N h l,Option.map_some,Option.map_none,A ac N h l,B ac N h l,hu ac N h l]
 have i:P.underlying t=some (.slice (P.elem t)):=by rw[J3 q];exact q
 rw[Sem.run_bind,run_sliceAt_slice w t _ _ _ _ i,run_slice_lhm w t _ n c i k k' s a b m j.1 j.2.1 j.2.2.1 j.2.2.2,J3 q,hs,D]
 rfl
theorem PV.mD {t e:TypeId}{x y z:Operand}{g n c sz:Nat}{k k':IntKind}{a b:Int}(v:Value)(hx:AA L W x (.slice (some ⟨g,0,none⟩) n c))(l:AA L W y (.int k a))(q:AA L W z (.int k' b))(i:P.underlying t=some (.slice e))(hs: ∀w,(sizeOf e).run P w= .ok sz w)
  (j:0<=a/\a<=b/\b<=(c:Int)) (s:v=sliced (some ⟨g,0,none⟩) a.toNat b.toNat c sz):
  PV P C L W ⟨d,.slice t x (some y) (some z) none,ty,ps,af,gd⟩ v:=by
 refine .kG hx l q λ k k' w=>?_
 have h:P.underlying t=some (.slice (P.elem t)):=by rw[J3 i];exact i
 rw[run_sliceAt_slice w t _ _ _ _ h,run_slice_lh w t _ n c h k k' a b j.1 j.2.1 j.2.2,J3 i,hs,s]
 rfl
end
section
variable {P:Program} {ops:Array Oper} {Q:Exit->Act->World->Prop} {N:Nat} {rest:List Oper} {L:Env} {w0 w:World} {M0 M:Mem} {Hs:List HO} {ty:TypeId} {ps:String} {af:Array Edge}
theorem RL.AG2 {x:Operand}{v1:Value}{tys:Array TypeId}{w':World}(hx:AA L true x v1)(e:(Builtin.clear_ tys ty #[v1]).run P w= .ok (.tuple #[]) w')
  (h:RL P ops Q N rest L w'):RL P ops Q N (⟨none,.call ⟨.builtin .clear,#[x],tys⟩,ty,ps,af,none⟩::rest) L w:=by
 intro a b
 refine wpList_plain U λ K i=>?_
 have key:(execOp a.eval ⟨none,.call ⟨.builtin .clear,#[x],tys⟩,ty,ps,af,none⟩).run P w= .ok (.value (.tuple #[])) w':=by
  simp only[execOp,resolve,invoke,builtin,Sem.run_bind,Sem.run_pure,Result.andThen_ok,List.map_toArray,List.map_cons,List.map_nil,hx a N b U,e]
 simp only[Oper.wp,key,Oper.upon_value]
 exact i _ _ (h _ b)
end
section st
variable {w0 w:World} {M0 M:Mem} {Hs:List HO} {k:Nat} {e:TypeId} {sz n c g:Nat} {xs:List Value}
theorem AG3(h:St w0 M0 w M Hs)(b:Hs[k]? =some (.priv e sz (.slice (some ⟨g,0,none⟩) n c) n xs))(o:Nat):St w0 M0 w M (Hs.set k (.priv e sz (.slice (some ⟨g,0,none⟩) n c) n (BY xs o []))):=by
 have:BY xs o []=xs:=by simp[BY]
 rw[this]
 have i:Hs.set k (.priv e sz (.slice (some ⟨g,0,none⟩) n c) n xs)=Hs:=by
  obtain⟨h1,j⟩:=List.getElem?_eq_some_iff.1 b
  rw[<-j];exact List.set_getElem_self h1
 rw[i];exact h
theorem St.AG4 {P:Program}(h:St w0 M0 w M Hs)(y:Hs[k]? =some (.priv e sz (.slice (some ⟨g,0,none⟩) n c) n xs)){t ty:TypeId}{i:TypeInfo}(z:P.underlying t=some (.slice e))(hi:P.info? e=some i)(l:i.size=sz){r q c2:Nat}{a:Addr}{cs:List Value}
  (hl:cs.length=q*sz) (B: ∀j u,cs[j]? =some u->w.cell? (a.add j)=some u) (C:r*sz+cs.length<=xs.length) (b:r+q<=c) (h1: ∀u∈cs,u.oneCell'=true):
  ∃w',(Builtin.append_ #[t,t] ty #[.slice (some ⟨g,0,none⟩) r c,.slice (some a) q c2]).run P w= .ok (.slice (some ⟨g,0,none⟩) (r+q) c) w'/\St w0 M0 w' M (Hs.set k (.priv e sz (.slice (some ⟨g,0,none⟩) n c) n (BY xs (r*sz) cs))):=by
 subst l
 have A:=run_firstCells_some (P:=P) w i.size q a q c2 cs hl B
 rcases Nat.eq_zero_or_pos cs.length with h0|h0
 ·obtain rfl:cs=[]:=List.eq_nil_of_length_eq_zero h0
  refine⟨w,?_,AG3 h y _⟩
  simp[Builtin.append_,run_underlying z,sizeOf,typeInfo,hi,Builtin.lenOf,b,A,storeCells]
 ·obtain⟨w',hw,hS⟩:=h.WB (P:=P) (us:=cs) (o:=r*i.size) y C h0 h1
  refine⟨w',?_,hS⟩
  have s:(storeCells ⟨g,r*i.size,none⟩ cs 0).run P w= .ok () w':=by simpa[sb,so]using hw
  simp[Builtin.append_,run_underlying z,sizeOf,typeInfo,hi,Builtin.lenOf,b,A,Addr.add_lit,s]
theorem St.AG5 {P:Program}(h:St w0 M0 w M Hs)(l:Hs[k]? =some (.priv e 1 (.slice (some ⟨g,0,none⟩) n c) n xs)){t ty:TypeId}{z:Value}(s:P.underlying t=some (.slice e))(y: ∀w,(zeroValue e).run P w= .ok z w)(A:z.cells= #[z])(h1:z.oneCell'=true){o m c2:Nat}(hm:0<m)(ho:o+m<=xs.length):
  ∃w',(Builtin.clear_ #[t] ty #[.slice (some ⟨g,o,none⟩) m c2]).run P w= .ok (.tuple #[]) w'/\St w0 M0 w' M (Hs.set k (.priv e 1 (.slice (some ⟨g,0,none⟩) n c) n (BY xs o (List.replicate m z)))):=by
 obtain⟨w',hw,hS⟩:=h.WB (P:=P) (us:=List.replicate m z) (o:=o) l (by simpa using ho) (by simpa using hm) (λ u hu=>by rw[List.eq_of_mem_replicate hu];exact h1)
 refine⟨w',?_,hS⟩
 have b:(storeCells ⟨g,o,none⟩ (List.replicate m z) 0).run P w= .ok () w':=by simpa[sb,so]using hw
 have j:(Builtin.zeroCells z.cells m).toList=List.replicate m z:=by
  rw[A]
  simp[Builtin.zeroCells]
  apply List.ext_getElem
  ·simp
  ·intro i h1 B
   simp[Nat.mod_one]
 obtain⟨q,rfl⟩: ∃q,m=q+1:=⟨m-1,Aa⟩
 simp[Builtin.clear_,run_underlying s,y,j,b]
theorem St.narrow (h:St w0 M0 w M Hs)(A:Hs[k]? =some (.priv e sz (.slice (some ⟨g,0,none⟩) n c) n xs)){m:Nat}(hm:m<=n):
  St w0 M0 w M (Hs.set k (.priv e sz (.slice (some ⟨g,0,none⟩) m c) m (xs.take (m*sz)))):=by
 obtain⟨⟨hl,i⟩,j⟩:=h.obj A
 rcases i with⟨i,_⟩|⟨C,cap,cur,i,hg,B,l,q,s,y⟩
 ·cases i
 ·cases i
  have hle:m*sz<=n*sz:=Nat.mul_le_mul_right _ hm
  refine h.write A (Below.refl _ _) h.sat (λ _ _ _=>rfl) (λ _ _ _=>rfl) (λ _ _ _ _=>rfl) ⟨⟨?_,.inr ⟨g,c,cur,rfl,hg,B,Nat.le_trans hm l,q,s,?_⟩⟩,λ b z o=>j b z o⟩ (λ _ z=>.inl z)
  ·rw[List.length_take];omega
  ·rw[<-y,List.take_take,Nat.min_eq_left hle]
end st
section
variable {c:Cx} {B:Exit->Act->World->Prop} {k k':List Fr} {m:Md} {s s':XS} {O:Prop} {E:List Ck} {all:Array Oper} {rest:List Oper} {d:Nat} {ty:TypeId} {ps:String} {af:Array Edge}
variable {e:TypeId} {sz g n cp:Nat} {xs:List Value}
theorem mE(kk r q:Nat){cs:List Value}{t:TypeId}{x y:Operand}{i:TypeInfo}{c2:Nat}{a:Addr}{E1:List Ck}(h:run c.T c.N k m s=⟨k',.ops all (⟨some d,.call ⟨.builtin .append,#[x,y],#[t,t]⟩,ty,ps,af,none⟩::rest),s',O,E⟩)
  (hx:H0 s'.L .t x y=some (.v (.slice (some ⟨g,0,none⟩) r cp),.v (.slice (some a) q c2),E1)) (G:CY s'.H kk=some (.ho (.priv e sz (.slice (some ⟨g,0,none⟩) n cp) n xs)))
  (J:c.P.underlying t=some (.slice e)) (hi:c.P.info? e=some i) (hs:(i.size,Nat.blt d c.N)=(sz,true)) (hl:cs.length=q*sz) (K: ∀w M,CZ c s'.F s'.H w M-> ∀j u,cs[j]? =some u->w.cell? (a.add j)=some u) (Q:r*sz+cs.length<=xs.length) (b:r+q<=cp) (h1: ∀u∈cs,u.oneCell'=true)
  (R:XG c B k' (.ops all rest) ⟨s'.F,C8 s'.H kk (.ho (.priv e sz (.slice (some ⟨g,0,none⟩) n cp) n (BY xs (r*sz) cs))),(d,.t,.v (.slice (some ⟨g,0,none⟩) (r+q) cp))::s'.L⟩) (hE:A9 E:=by exact Ad) (hO:O:=by exact Af) (hE1:A9 E1:=by exact Ad):XG c B k m s:=by
 simp only[Prod.mk.injEq]at hs
 refine DC h (hE:=hE) (hO:=hO) λ w M z=>?_
 obtain⟨j,S,l⟩:=DK (Hr:=c.Hr) G
 obtain⟨A,C⟩:=FE hx hE1
 obtain⟨w',D,hS⟩:=z.st.AG4 (P:=c.P) (ty:=ty) S J hi hs.1 hl (K w M z) Q b h1
 exact RL.dB A C D hs.2 (DD R ⟨by rw[l];exact hS,z.f,z.le⟩ U)
theorem mF(kk o q:Nat){t:TypeId}{x:Operand}{z:Value}{c2:Nat}{E1:List Ck}(h:run c.T c.N k m s=⟨k',.ops all (⟨none,.call ⟨.builtin .clear,#[x],#[t]⟩,ty,ps,af,none⟩::rest),s',O,E⟩)
  (hx:BB s'.L .t x=some (.v (.slice (some ⟨g,o,none⟩) q c2),E1)) (y:CY s'.H kk=some (.ho (.priv e 1 (.slice (some ⟨g,0,none⟩) n cp) n xs)))
  (A:c.P.underlying t=some (.slice e)) (C: ∀w,(zeroValue e).run c.P w= .ok z w) (D:z.cells= #[z]) (h1:z.oneCell'=true) (hm:0<q) (ho:o+q<=xs.length)
  (G:XG c B k' (.ops all rest) ⟨s'.F,C8 s'.H kk (.ho (.priv e 1 (.slice (some ⟨g,0,none⟩) n cp) n (BY xs o (List.replicate q z)))),s'.L⟩) (hE:A9 E:=by exact Ad) (hO:O:=by exact Af) (hE1:A9 E1:=by exact Ad):XG c B k m s:=by
 refine DC h (hE:=hE) (hO:=hO) λ w M i=>?_
 obtain⟨j,J,b⟩:=DK (Hr:=c.Hr) y
 obtain⟨w',l,hS⟩:=i.st.AG5 (P:=c.P) (ty:=ty) (o:=o) (m:=q) (c2:=c2) J A C D h1 hm ho
 exact RL.AG2 (A7 hx (hE:=hE1)) l (DD G ⟨by rw[b];exact hS,i.f,i.le⟩ U)
theorem mG(kk q:Nat)(i:CY s.H kk=some (.ho (.priv e sz (.slice (some ⟨g,0,none⟩) n cp) n xs)))(hm:q<=n)
  (l:XG c B k m ⟨s.F,C8 s.H kk (.ho (.priv e sz (.slice (some ⟨g,0,none⟩) q cp) q (xs.take (q*sz)))),s.L⟩):XG c B k m s:=by
 intro a w ⟨h1,M,h⟩
 obtain⟨j,y,b⟩:=DK (Hr:=c.Hr) i
 exact l a w ⟨h1,M,by rw[b];exact h.st.narrow y hm,h.f,h.le⟩
end
end Go.Eng
namespace Go.Proofs.YtnoegalemkbbbaaGreatDoor
open Go.Proofs.Tryz
open Go.Eng
theorem BK:prog.follows .mixedOrders=true:=by kernel_rfl
end Go.Proofs.YtnoegalemkbbbaaGreatDoor
namespace Go.Eng
open Go.RowKit
def AG6:A0:=[110,117,109]
def AG7:A0:=[115,116,114]
def RY:List A0:=[UP,UO,UN,AG6,AG7]
def PT(l:List Tk)(m i:Int):PR Int:=
 if(at' l i).kind=2/\(at' l i).s∈RY/\(m.toNat/2^ (RY.idxOf (at' l i).s))%2=0 then .ok (m+(2^ (RY.idxOf (at' l i).s):Nat)) (i+1)else JI l i 1
def XO:Nat->List Tk->Int->Int->PR Int
 |0,l,_,i=>JI l i 1
 |f+1,l,m,i=>if CI l i [124]then(PT l m (i+1)).bind λ n j=>XO f l n j else .ok m i
def mH(l:List Tk)(i:Int):PR Tf:=
 if(at' l i).kind=1/\(at' l i).s∈XJ then(cX l (i+1)).bind λ c k=>.ok (.mk ⟨9,0,[],[],(XJ.idxOf (at' l i).s:Nat),c⟩ []) k else JI l i 1
def mI:Nat->List Tk->List Tf->Int->PR (List Tf)
 |0,l,_,i=>JI l i 1
 |f+1,l,xs,i=>if CI l i [44]then(mH l (i+1)).bind λ x j=>mI f l (xs++[x]) j else .ok xs i
def mJ(m:Int)(xs:List Tf):Tf:=.mk { AV 1 with n:=m} xs
def BD8(l:List Tk)(d i:Int):PR Tf:=(PT l 0 i).bind λ m0 i0=>(XO l.length l m0 i0).bind λ m j=>
 if CI l j [40]then(KL l d j [40]).bind λ _ k=>(mH l k).bind λ x n=>(mI l.length l [x] n).bind λ xs o=>(H5 l o [41]).bind λ _ p=>.ok (mJ m xs) p
 else .ok (mJ m []) j
def RZ(x:Tf):List Tf->List Tf
 |[]=>[x]
 |y::l=>if x.t.name<=y.t.name then x::y::l else y::RZ x l
def LV:List Tf->List Tf
 |[]=>[]
 |x::l=>RZ x (LV l)
end Go.Eng
namespace Go.Proofs.YtnoegalemkbbbaaGreatDoor
open Go.Proofs.Tryz
open Go.Eng
end Go.Proofs.YtnoegalemkbbbaaGreatDoor
namespace Go.Eng
open Go.RowKit
theorem XR{P:Program}{N:Nat}{w0 w:World}{M0 M:Mem}{Hr:List HO}{T:TT}(hT:DP P T){f:FuncId}{fn:Func}{x:Code}{R:Ending->World->Prop}(e:P.funcs[f]? =some fn)(i:fn.body=some x)(j:fn.ntmps=N)(b:D6 x=true)(ho: ∀w,¬R .outgrown w)
  (F:List (Nat×Kn)) (H:List (Nat×HX)) (vs:List XV) (hl:Nat.ble vs.length N=true) (hS:St w0 M0 w M (HD H++Hr)) (hF:BI M F)
  (h: ∀B,Ends P fn R B->XG ⟨P,N,w0,M0,M,Hr,T,hT,.RB P none 1⟩ B [] (.code x) ⟨F,H,MM 0 vs⟩) {av:List Value} (k:vs.map XV.d=av):Calls P f av.toArray w R:=by
 subst k
 refine(callsIn_wide (n:=1)).1 (callsIn_of_wp_marks e i trivial ?_ U)
 rw[j]
 have hs:=AZ.enter (vs.map XV.d) N (by rw[List.length_map];exact Nat.le_of_ble_eq_true hl)
 have hE:MQ P fn R (bodyPostM Fence.wide 1 P fn R):=⟨λ _ _ _ h=>h⟩
 have:=h _ hE.ends _ w ⟨by rw[<-R4]at hs;exact hs,M,hS,hF,Mem.le.refl _⟩
 exact this (λ⟨a,w,q⟩=>ho w q) b
theorem mK{P:Program}{w:World}{L:Env}{W:Bool}{l:Nat}{x:Operand}{xs:List Operand}{vs:List Value}(h:AA L W x (.func (.yield l) #[] #[]))(hx:EE L W xs vs){a:Act}{N:Nat}(hs:AZ a N L)(b:W=true){d:Option Tmp}{tys:Array TypeId}{ty:TypeId}{ps:String}{af:Array Edge}{gd:Option (Nat×Bool)}:
  (execOp a.eval ⟨d,.call ⟨.value x,xs.toArray,tys⟩,ty,ps,af,gd⟩).run P w=(Instr.yield l vs.toArray).run P w:=by
 have e:xs.toArray.map a.eval=vs.toArray:=by rw[List.map_toArray,EE.map hs b xs vs hx]
 simp only[execOp,resolve,e,h a N hs b,Deferred.ofValue,invoke,Sem.run_bind,Sem.run_pure,Result.andThen_ok]
 simp
theorem AG8{P:Program}{N:Nat}{w0:World}{M0 M1:Mem}{Hr:List HO}{T:TT}{hT:DP P T}{B:Exit->Act->World->Prop}{k k':List Fr}{m:Md}{s s':XS}{O:Prop}{E:List Ck}{all:Array Oper}{rest:List Oper}{d:Nat}{ty:TypeId}{ps:String}{af:Array Edge}
  {γ:Type} (j:γ->List (Nat×HX)) (ids:List Nat) {pu:γ->Prop} {Fg:γ->List (Nat×Kn)} {Hg:γ->List HO} {l:Nat} {n:Operand} {E1 E2:List Ck} {xs:List Operand} {tys:Array TypeId} {vs:List XV} {A R:List (Nat×HX)} (z:List Nat)
  (h:run T N k m s=⟨k',.ops all (⟨some d,.call ⟨.value n,⟨xs⟩,tys⟩,ty,ps,af,none⟩::rest),s',O,E⟩) (C:BB s'.L .t n=some (.v (.func (.yield l) #[] #[]),E1)) (hd:Nat.blt d N=true) (hx:JH s'.L .t xs=some (vs,E2))
  (D:GA ids s'.H=some (A,R)) (G: ∀w M,St w0 M0 w M (HD A++(HD R++Hr))->BI M s'.F->M1.le M->WR P l (vs.map XV.d).toArray w (BF w0 M0 M (HD R++Hr) (λ _:γ=>.bool true) pu Fg Hg))
  (J: ∀g,pu g->XG ⟨P,N,w0,M0,M1,Hr,T,hT,.RB P none 1⟩ B k' (.ops all rest) ⟨PC z (Fg g)++s'.F,j g++R,(d,.t,.v (.bool true))::s'.L⟩) (hE:A9 E:=by exact Ad) (hO:O:=by exact Af) (hE1:A9 E1:=by exact Ad) (hE2:A9 E2:=by exact Ad) (hH: ∀g,HD (j g)=Hg g:=by intros;rfl):XG ⟨P,N,w0,M0,M1,Hr,T,hT,.RB P none 1⟩ B k m s:=by
 refine CL h hE hO λ a w ⟨hs,M,b⟩ hl i=>?_
 rw[List.all_cons,Bool.and_eq_true]at i
 have q:St w0 M0 w M (HD A++(HD R++Hr)):=b.st.perm (by rw[<-List.append_assoc];exact(PD D).append_right _)
 obtain⟨fn,tmps,assign,body,K,Q⟩:=G w M q b.f b.le
 unfold wpListIn
 rw[if_pos (show Region.wanted ⟨some d,.call ⟨.value n,⟨xs⟩,tys⟩,ty,ps,af,none⟩ (yielded all a.tmps)=true from rfl)]
 refine⟨λ _ _=>trivial,?_⟩
 have key:=mK (P:=P) (w:=w) (A7 C (hE:=hE1)) (LH hx hE2) hs U (d:=some d) (tys:=tys) (ty:=ty) (ps:=ps) (af:=af) (gd:=none)
 rw[show(FR none).round=none from rfl,show ∀(o:Oper),Oper.semAt none a.eval o=execOp a.eval o from λ _=>rfl]
 have S:(⟨xs⟩:Array Operand)=xs.toArray:=rfl
 rw[S,key,K]
 refine⟨(λ h=>by cases h),RoundIn.mono (R:=BF w0 M0 M (HD R++Hr) (λ _:γ=>.bool true) pu Fg Hg) Q λ e w' he=>?_⟩
 obtain⟨g,M',rfl,hp,hle,hS,hF⟩:=he
 have y:=R8 hs hd (.v (.bool true))
 have e2:HD (j g++R)++Hr=Hg g++(HD R++Hr):=by rw[<-hH];unfold HD;rw[List.map_append,List.append_assoc]
 exact J g hp _ w' ⟨y,M',by rw[e2];exact hS,(U7 hF).app (b.f.mono hle),b.le.trans hle⟩ hl i.2
structure AI where
 a:Option Addr
 n:Nat
 c:Nat
deriving Inhabited
def BX(h:AI):List Value:=[.slice h.a h.n h.c]
theorem E5(h:AI):(BX h).length=1:=rfl
theorem O7(h:AI): ∀u∈BX h,u.oneCell'=true:=by intro u hu;simp[BX]at hu;subst hu;rfl
abbrev AI.v (h:AI):Value:=.slice h.a h.n h.c
def B5{α:Type}(M:Mem)(sz:Nat)(f:α->List Value):List AI->List (List α)->Prop
 |[],[]=>True
 |h::hs,x::xs=>Sl M sz x.length h.v (x.flatMap f)/\B5 M sz f hs xs
 |_,_=>False
section
variable {α:Type} {M M':Mem} {sz:Nat} {f:α->List Value}
theorem B5.mono (hm:M.le M'): ∀ {hs:List AI} {xs:List (List α)},B5 M sz f hs xs->B5 M' sz f hs xs
 |[],[],_=>trivial
 |_::_,_::_,h=>⟨h.1.mono hm,B5.mono hm h.2⟩
 |[],_::_,h=>h.elim
 |_::_,[],h=>h.elim
theorem B5.snoc {h:AI}{x:List α}(hx:Sl M sz x.length h.v (x.flatMap f)): ∀ {hs:List AI} {xs:List (List α)},B5 M sz f hs xs->B5 M sz f (hs++[h]) (xs++[x])
 |[],[],_=>⟨hx,trivial⟩
 |_::_,_::_,h=>⟨h.1,B5.snoc hx h.2⟩
 |[],_::_,h=>h.elim
 |_::_,[],h=>h.elim
theorem B5.len: ∀ {hs:List AI} {xs:List (List α)},B5 M sz f hs xs->hs.length=xs.length
 |[],[],_=>rfl
 |_::_,_::_,h=>by simp[B5.len h.2]
 |[],_::_,h=>h.elim
 |_::_,[],h=>h.elim
theorem B5.get: ∀ {hs:List AI} {xs:List (List α)} (k:Nat),B5 M sz f hs xs->k<hs.length->Sl M sz (xs.getD k []).length (hs.getD k default).v ((xs.getD k []).flatMap f)
 |[],_,_,_,h=>absurd h (Nat.not_lt_zero _)
 |_::_,[],_,h,_=>h.elim
 |_::_,_::_,0,h,_=>h.1
 |_::_,_::_,k+1,h,b=>by simpa using B5.get k h.2 (by simpa using b)
end
theorem B5.at {α:Type}{M:Mem}{sz:Nat}{f:α->List Value}{hs:List AI}{xs:List (List α)}{k:Int}(h:B5 M sz f hs xs)(h0:0<=k)(h1:k<Eng.len hs):Sl M sz (at' xs k).length (at' hs k).v ((at' xs k).flatMap f):=
 by
 have:=B5.get k.toNat h (by unfold Eng.len at h1;omega)
 exact this
theorem Sl.shape {M:Mem}{sz n:Nat}{v:Value}{cs:List Value}(h:Sl M sz n v cs): ∃a c,v= .slice a n c:=by
 obtain⟨p,cap,b,_⟩:=h.val;exact⟨p,cap,b⟩
end Go.Eng
namespace Go.Proofs.YtnoegalemkbbbaaGreatDoor
open Go.Proofs.Tryz
open Go.Eng
abbrev I4(F:List (Nat×Kn)):Kn:=⟨.slice none 0 0,1,([]:List A0),DV,λ M=>BI M F,λ _ _ hm h=>h.mono hm⟩
end Go.Proofs.YtnoegalemkbbbaaGreatDoor
namespace Go.Eng
open Go.RowKit
theorem St.AG9 {w0 w:World}{M0 M:Mem}{Hs:List HO}(h:St w0 M0 w M Hs)(e:TypeId)(sz cap:Nat)(cur:Array Value)(k:cur.size=cap*sz)(hm:cap<=maxLen):
  St w0 M0 (w.alloc (.cells cur e)) M (.priv e sz (.slice (some ⟨w.heap.size,0,none⟩) 0 cap) 0 []::Hs):=by
 have h1:=h.ext (Ext.alloc w (.cells cur e))
 refine⟨h1.low,h1.sat,h1.old,λ x hx=>?_,List.pairwise_cons.2 ⟨λ y l b i=>?_,h.apart⟩⟩
 ·rcases List.mem_cons.1 hx with rfl|hx
  ·refine⟨⟨by simp,.inr ⟨w.heap.size,cap,cur,rfl,h.size,heap_alloc_new _ _,Nat.zero_le _,hm,k,by simp⟩⟩,λ b i o=>?_⟩
   simp only[Value.ownBlock,Option.some.injEq]at i;subst i
   exact h.P1 (Nat.le_refl _) o
  ·exact h1.ok x hx
 ·simp only[HO.E6,Value.ownBlock,Option.some.injEq]at i;subst i
  intro j
  have:=(HO.ok.lt (h.ok y l) j).2
  omega
end Go.Eng
namespace Go.Proofs.YtnoegalemkbbbaaGreatDoor
open Go.Proofs.Tryz
open Go.Eng Go.RowKit
end Go.Proofs.YtnoegalemkbbbaaGreatDoor
namespace Go.Eng
def J7{α:Type}(xs:List (List α))(k:Int):List α:=(xs.take k.toNat).flatten
theorem XU{α:Type}{xs:List (List α)}{k:Int}(h0:0<=k)(h1:k<len xs):J7 xs (k+1)=J7 xs k++at' xs k:=by
 have b:k.toNat<xs.length:=by unfold len at h1;omega
 unfold J7 at'
 rw[show(k+1).toNat=k.toNat+1 from by omega,List.take_add_one,List.flatten_append]
 simp[b]
theorem mL{α:Type}{xs:List (List α)}{k:Int}(h:len xs<=k):J7 xs k=xs.flatten:=by
 unfold J7;rw[List.take_of_length_le (by unfold len at h;omega)]
theorem UQ{α:Type}(xs:List (List α))(k:Int):len (J7 xs k)<=len xs.flatten:=by
 have h:(xs.take k.toNat).flatten++(xs.drop k.toNat).flatten=xs.flatten:=by rw[<-List.flatten_append,List.take_append_drop]
 unfold J7
 rw[<-h,AO];have:=A8 (xs.drop k.toNat).flatten;omega
theorem at_mem{α:Type}[Inhabited α]{l:List α}{k:Int}(h0:0<=k)(h1:k<len l):at' l k∈l:=QU h0 h1
theorem G0{α:Type}[Inhabited α]{l:List α}{k:Int}(h0:0<=k)(h1:k<len l):Eng.sub l 0 (k+1)=Eng.sub l 0 k++[at' l k]:=by
 obtain⟨b,e⟩:=CE l h0 h1
 unfold Eng.sub
 rw[e,show(k+1).toNat-(0:Int).toNat=k.toNat+1 by omega,show k.toNat-(0:Int).toNat=k.toNat by omega]
 simp only[Int.toNat_zero,List.drop_zero]
 rw[List.take_add_one,List.getElem?_eq_getElem b];rfl
theorem GD{α:Type}{l:List α}{k:Int}(h:len l<=k):Eng.sub l 0 k=l:=by
 unfold Eng.sub len at*
 simp only[Int.toNat_zero,List.drop_zero,Nat.sub_zero]
 exact List.take_of_length_le Aa
end Go.Eng
