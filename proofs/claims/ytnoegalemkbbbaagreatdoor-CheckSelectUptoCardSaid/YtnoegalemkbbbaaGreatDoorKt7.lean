/- Lemmas for the card. -/
import Derived.Test.YtnoegalemkbbbaaGreatDoorKt6
set_option linter.unusedVariables false
set_option linter.unusedSimpArgs false
set_option maxRecDepth 100000
namespace Go.Eng
open Go.RowKit
structure Tm where
 op:Int
 many:Int
 name:A0
 s:A0
 n:Int
 c:Nd
deriving Inhabited,DecidableEq
def Tm.cells (t:Tm):List Value:=[i64 t.op,i64 t.many,str t.name,str t.s,i64 t.n,i64 t.c.kind,i64 t.c.many,str t.c.name,str t.c.s,.bool t.c.neg,i64 t.c.e]
theorem Tm.AO (t:Tm):t.cells.length=11:=rfl
abbrev Fl:=List Tm
def BK(o:Int):Tm:=⟨o,0,[],[],0,B6⟩
inductive Tf where
 |mk (t:Tm) (ps:List Tf)
mutual
def Tf.flat:Tf->Fl
 | .mk t ps=> { t with many:=len ps}::AM ps
def AM:List Tf->Fl
 |[]=>[]
 |x::l=>x.flat++AM l
end
instance:Inhabited Tf:=⟨.mk default []⟩
def Tf.t:Tf->Tm
 | .mk t _=>t
def Tf.ps:Tf->List Tf
 | .mk _ ps=>ps
def Tf.named (n:A0):Tf->Tf
 | .mk t ps=>.mk { t with name:=n} ps
def nU:Tf->Tf->Tf
 | .mk t [a,b],g=>if t.op=4 then .mk (BK 4) [a,nU b g]else .mk (BK 4) [.mk t [a,b],g]
 |x,g=>.mk (BK 4) [x,g]
def nV:List Tf->Tf
 |[]=>default
 |[x]=>x
 |x::y::l=>nU x (nV (y::l))
structure Sp where
 part:Bool
 name:A0
 n:Int
deriving Inhabited,DecidableEq
def Sp.cells (x:Sp):List Value:=[.bool x.part,str x.name,i64 x.n]
def Q9(s:A0):Bool:=s != []&&B8 s==s
def CM(l:List Tk)(i:Int)(m:A0):Bool:=(at' l i).kind==1&&(at' l i).s==m
def BL9(l:List Tk)(i:Int)(w:A0):Bool:=(at' l i).kind==2&&(at' l i).s==w
def K1{α:Type}(l:List Tk)(i e:Int):PR α:=.er e (at' l i).pos
def PR.bind {α β:Type}(r:PR α)(k:α->Int->PR β):PR β:=match r with
 | .er c p=>.er c p
 | .ok x j=>k x j
def H4(l:List Tk)(i:Int)(m:A0):PR Unit:=if CM l i m then .ok () (i+1)else K1 l i 1
def LB(l:List Tk)(d i:Int)(m:A0):PR Unit:=if CM l i m&&decide (64<=d)then K1 l i 3 else H4 l i m
def AK6(s:A0):Int:=s.foldl (λ n c=>10*n+((c.toNat:Int)-48)) 0
def UX(t:Tk):Int:=AK6 (t.c.s++List.replicate t.c.e.toNat 48)
def NI(l:List Tk)(i:Int):PR Int:=
 if(at' l i).kind≠5\/(at' l i).c.neg=true\/(at' l i).c.e<0\/7<len (at' l i).c.s+(at' l i).c.e then K1 l i 1
 else if 1000000<UX (at' l i)then K1 l i 1 else .ok (UX (at' l i)) (i+1)
def AK7(l:List Tk)(i:Int):PR Tf:=
 if(at' l i).kind=3 then .ok (.mk { BK 1 with s:=(at' l i).s} []) (i+1)
 else(NI l (i+1)).bind λ n j=>
  if CM l j [58]then(H4 l (j+1) [93]).bind λ _ k=>.ok (.mk { BK 3 with n:=n} []) k
  else(H4 l j [93]).bind λ _ k=>.ok (.mk { BK 2 with n:=n} []) k
def AK8:Nat->List Tk->List Tf->Int->PR Tf
 |0,l,_,i=>K1 l i 1
 |f+1,l,xs,i=>if(at' l i).kind=3\/CM l i [91]=true then(AK7 l i).bind λ x j=>AK8 f l (xs++[x]) j else .ok (nV xs) i
def UY:A0:=[116,114,117,101]
def UZ:A0:=[102,97,108,115,101]
def V1:A0:=[110,117,108,108]
def eC(l:List Tk)(i:Int):PR Nd:=
 if(at' l i).kind=5 then .ok (at' l i).c (i+1)
 else if(at' l i).kind=4 then .ok ⟨4,0,[],(at' l i).s,false,0⟩ (i+1)
 else if(at' l i).kind=2/\(at' l i).s∈[V1,UZ,UY]then .ok ⟨([V1,UZ,UY].idxOf (at' l i).s:Nat),0,[],[],false,0⟩ (i+1)
 else K1 l i 1
def XZ:List A0:=[[61,61],[33,61],[60],[60,61],[62],[62,61]]
def sOr:A0:=[111,114]
def BM1:A0:=[97,110,100]
def BM2:A0:=[110,111,116]
def BM3:A0:=[116,111,95,101,110,116,114,105,101,115]
def BM4:A0:=[102,114,111,109,95,101,110,116,114,105,101,115]
def BM5:A0:=[114,101,118,101,114,115,101]
end Go.Eng
set_option maxRecDepth 100000
namespace Go.Proofs.YtnoegalemkbbbaaGreatDoor
open Go.Proofs.Tryz
open Go.Eng
theorem nW:prog.underlying 48=some (.struct (prog.fieldsOf 48)):=by kernel_rfl
theorem AK9:(prog.fieldsOf 48).toList=[⟨"Op",3,0,false,"","",0⟩,⟨"Many",3,1,false,"","",8⟩,⟨"Name",9,2,false,"","",16⟩,⟨"S",9,3,false,"","",32⟩,⟨"N",3,4,false,"","",48⟩,⟨"C",46,5,false,"","",56⟩]:=by kernel_rfl
theorem AL0(d:Nat)(a b:Tm)(w:World):(Op.equalIn (d+1+1+1) 48 (.agg (Tm.cells a).toArray) (.agg (Tm.cells b).toArray)).run prog w= .ok (decide (a=b)) w:=by
 rw[run_equalIn_agg w _ _ _ _ nW Tryz.stoodInHeld48,AK9]
 rw[GY (P:=prog) (w:=w) (xs:=(Tm.cells a).toArray) (ys:=(Tm.cells b).toArray) (f:=⟨"Op",3,0,false,"","",0⟩) Ab (show(part 3 (Tm.cells a).toArray 0).run prog w= .ok (i64 ((a).op)) w by kernel_rfl) (show(part 3 (Tm.cells b).toArray 0).run prog w= .ok (i64 ((b).op)) w by kernel_rfl) (N5 underlying3 w (d+1) ((a).op) ((b).op))]
 rw[GY (P:=prog) (w:=w) (xs:=(Tm.cells a).toArray) (ys:=(Tm.cells b).toArray) (f:=⟨"Many",3,1,false,"","",8⟩) Ab (show(part 3 (Tm.cells a).toArray 1).run prog w= .ok (i64 ((a).many)) w by kernel_rfl) (show(part 3 (Tm.cells b).toArray 1).run prog w= .ok (i64 ((b).many)) w by kernel_rfl) (N5 underlying3 w (d+1) ((a).many) ((b).many))]
 rw[GY (P:=prog) (w:=w) (xs:=(Tm.cells a).toArray) (ys:=(Tm.cells b).toArray) (f:=⟨"Name",9,2,false,"","",16⟩) Ab (show(part 9 (Tm.cells a).toArray 2).run prog w= .ok (str ((a).name)) w by kernel_rfl) (show(part 9 (Tm.cells b).toArray 2).run prog w= .ok (str ((b).name)) w by kernel_rfl) (RF underlying9 w (d+1) ((a).name) ((b).name))]
 rw[GY (P:=prog) (w:=w) (xs:=(Tm.cells a).toArray) (ys:=(Tm.cells b).toArray) (f:=⟨"S",9,3,false,"","",32⟩) Ab (show(part 9 (Tm.cells a).toArray 3).run prog w= .ok (str ((a).s)) w by kernel_rfl) (show(part 9 (Tm.cells b).toArray 3).run prog w= .ok (str ((b).s)) w by kernel_rfl) (RF underlying9 w (d+1) ((a).s) ((b).s))]
 rw[GY (P:=prog) (w:=w) (xs:=(Tm.cells a).toArray) (ys:=(Tm.cells b).toArray) (f:=⟨"N",3,4,false,"","",48⟩) Ab (show(part 3 (Tm.cells a).toArray 4).run prog w= .ok (i64 ((a).n)) w by kernel_rfl) (show(part 3 (Tm.cells b).toArray 4).run prog w= .ok (i64 ((b).n)) w by kernel_rfl) (N5 underlying3 w (d+1) ((a).n) ((b).n))]
 rw[GY (P:=prog) (w:=w) (xs:=(Tm.cells a).toArray) (ys:=(Tm.cells b).toArray) (f:=⟨"C",46,5,false,"","",56⟩) Ab (show(part 46 (Tm.cells a).toArray 5).run prog w= .ok (.agg (Nd.cells ((a).c)).toArray) w by kernel_rfl) (show(part 46 (Tm.cells b).toArray 5).run prog w= .ok (.agg (Nd.cells ((b).c)).toArray) w by kernel_rfl) (XD d ((a).c) ((b).c) w)]
 have e:(.ok true w:Result Bool)= .ok (decide True) w:=rfl
 rw[aX,e]
 simp only[aY]
 have hp:((a).op=(b).op/\(a).many=(b).many/\(a).name=(b).name/\(a).s=(b).s/\(a).n=(b).n/\(a).c=(b).c/\True)↔a=b:=by cases a;cases b;simp
 rw[decide_eq_decide.2 hp]
theorem OI(x y:Operand)(a b:Tm)(w:World):(do eqGuard .eql 48 x y (.agg (Tm.cells a).toArray) (.agg (Tm.cells b).toArray);binOp .eql 48 (.agg (Tm.cells a).toArray) (.agg (Tm.cells b).toArray):Sem Value).run prog w= .ok (.bool (decide (a=b))) w:=bB x y w eqGuardType48 (AL0 9997 a b w)
theorem nX:prog.underlying 52=some (.struct (prog.fieldsOf 52)):=by kernel_rfl
theorem AL1:(prog.fieldsOf 52).toList=[⟨"Kind",3,0,false,"","",0⟩,⟨"Many",3,1,false,"","",8⟩,⟨"Name",9,2,false,"","",16⟩,⟨"S",9,3,false,"","",32⟩,⟨"N",3,4,false,"","",48⟩,⟨"C",46,5,false,"","",56⟩]:=by kernel_rfl
theorem AL2(d:Nat)(a b:Tm)(w:World):(Op.equalIn (d+1+1+1) 52 (.agg (Tm.cells a).toArray) (.agg (Tm.cells b).toArray)).run prog w= .ok (decide (a=b)) w:=by
 rw[run_equalIn_agg w _ _ _ _ nX Tryz.stoodInHeld52,AL1]
 rw[GY (P:=prog) (w:=w) (xs:=(Tm.cells a).toArray) (ys:=(Tm.cells b).toArray) (f:=⟨"Kind",3,0,false,"","",0⟩) Ab (show(part 3 (Tm.cells a).toArray 0).run prog w= .ok (i64 ((a).op)) w by kernel_rfl) (show(part 3 (Tm.cells b).toArray 0).run prog w= .ok (i64 ((b).op)) w by kernel_rfl) (N5 underlying3 w (d+1) ((a).op) ((b).op))]
 rw[GY (P:=prog) (w:=w) (xs:=(Tm.cells a).toArray) (ys:=(Tm.cells b).toArray) (f:=⟨"Many",3,1,false,"","",8⟩) Ab (show(part 3 (Tm.cells a).toArray 1).run prog w= .ok (i64 ((a).many)) w by kernel_rfl) (show(part 3 (Tm.cells b).toArray 1).run prog w= .ok (i64 ((b).many)) w by kernel_rfl) (N5 underlying3 w (d+1) ((a).many) ((b).many))]
 rw[GY (P:=prog) (w:=w) (xs:=(Tm.cells a).toArray) (ys:=(Tm.cells b).toArray) (f:=⟨"Name",9,2,false,"","",16⟩) Ab (show(part 9 (Tm.cells a).toArray 2).run prog w= .ok (str ((a).name)) w by kernel_rfl) (show(part 9 (Tm.cells b).toArray 2).run prog w= .ok (str ((b).name)) w by kernel_rfl) (RF underlying9 w (d+1) ((a).name) ((b).name))]
 rw[GY (P:=prog) (w:=w) (xs:=(Tm.cells a).toArray) (ys:=(Tm.cells b).toArray) (f:=⟨"S",9,3,false,"","",32⟩) Ab (show(part 9 (Tm.cells a).toArray 3).run prog w= .ok (str ((a).s)) w by kernel_rfl) (show(part 9 (Tm.cells b).toArray 3).run prog w= .ok (str ((b).s)) w by kernel_rfl) (RF underlying9 w (d+1) ((a).s) ((b).s))]
 rw[GY (P:=prog) (w:=w) (xs:=(Tm.cells a).toArray) (ys:=(Tm.cells b).toArray) (f:=⟨"N",3,4,false,"","",48⟩) Ab (show(part 3 (Tm.cells a).toArray 4).run prog w= .ok (i64 ((a).n)) w by kernel_rfl) (show(part 3 (Tm.cells b).toArray 4).run prog w= .ok (i64 ((b).n)) w by kernel_rfl) (N5 underlying3 w (d+1) ((a).n) ((b).n))]
 rw[GY (P:=prog) (w:=w) (xs:=(Tm.cells a).toArray) (ys:=(Tm.cells b).toArray) (f:=⟨"C",46,5,false,"","",56⟩) Ab (show(part 46 (Tm.cells a).toArray 5).run prog w= .ok (.agg (Nd.cells ((a).c)).toArray) w by kernel_rfl) (show(part 46 (Tm.cells b).toArray 5).run prog w= .ok (.agg (Nd.cells ((b).c)).toArray) w by kernel_rfl) (XD d ((a).c) ((b).c) w)]
 have e:(.ok true w:Result Bool)= .ok (decide True) w:=rfl
 rw[aX,e]
 simp only[aY]
 have hp:((a).op=(b).op/\(a).many=(b).many/\(a).name=(b).name/\(a).s=(b).s/\(a).n=(b).n/\(a).c=(b).c/\True)↔a=b:=by cases a;cases b;simp
 rw[decide_eq_decide.2 hp]
theorem OJ(x y:Operand)(a b:Tm)(w:World):(do eqGuard .eql 52 x y (.agg (Tm.cells a).toArray) (.agg (Tm.cells b).toArray);binOp .eql 52 (.agg (Tm.cells a).toArray) (.agg (Tm.cells b).toArray):Sem Value).run prog w= .ok (.bool (decide (a=b))) w:=bB x y w eqGuardType52 (AL2 9997 a b w)
open Go.ChangeShapes Go.WideShapes Go.ChangeAt Go.RowKit Go.Eng Go.Deep
def NJ(W:World):Mem:=λ b o=>W.cell? ⟨b,o,none⟩
theorem AL3(W:World):Sat W (NJ W):=⟨λ _ _ _ h=>h⟩
theorem laidOut:laidOutB prog=true:=by kernel_rfl
section
variable {H:Type} {enc:TypeId×Value->H} {w:World} {base:Nat} {sp:Nat->Bool} {hd:Bool}
theorem H5{fs:Array Field}{n:Nat}{cs:List Value}{xs:List (DataW H×List MemPlace)}(k: ∀(i:Nat) (f:Field),fs[i]? =some f->DataW.trod enc prog w base sp hd n f.type ((cs.drop f.offset).take (prog.cellsOf f.type))=xs[i]?)(hx:xs.length=fs.size)
  {i t o c:Nat} (h:(fs[i]?).map (λ f=>(f.type,f.offset,prog.cellsOf f.type))=some (t,o,c)): ∃x,DataW.trod enc prog w base sp hd n t ((cs.drop o).take c)=some x:=by
 obtain⟨f,h1,j⟩:=Option.map_eq_some_iff.1 h
 have b:=k i f h1
 have e:i<xs.length:=by rw[hx];exact(Array.getElem?_eq_some_iff.1 h1).1
 rw[List.getElem?_eq_getElem e]at b
 simp only[Prod.mk.injEq]at j
 obtain⟨l,e2,e3⟩:=j
 rw[e3,e2,l]at b
 exact⟨_,b⟩
theorem NK{n:Nat}{cs:List Value}{c:Value}(b:cs=[c])(h: ∃x,DataW.trod enc prog w base sp hd n 3 cs=some x): ∃z,c=i64 z:=by
 obtain⟨x,h⟩:=h
 obtain⟨z,h1,_⟩:=DataW.trod_int underlying3 h
 rw[b]at h1
 exact⟨z,(List.cons.inj h1).1⟩
theorem SF{n:Nat}{cs:List Value}{c:Value}(b:cs=[c])(h: ∃x,DataW.trod enc prog w base sp hd n 9 cs=some x): ∃s:A0,c=str s/\len s<=9223372036854775807:=by
 obtain⟨x,h⟩:=h
 obtain⟨s,h1,_,e⟩:=DataW.trod_string underlying9 h
 rw[b]at h1
 refine⟨s.data.toList,(List.cons.inj h1).1,?_⟩
 unfold len
 have:s.data.toList.length=s.size:=Array.length_toList
 have i:s.size<=9223372036854775807:=e
 rw[this];omega
theorem AL4{n:Nat}{cs:List Value}{c:Value}(e:cs=[c])(h: ∃x,DataW.trod enc prog w base sp hd n 4 cs=some x): ∃b,c= .bool b:=by
 obtain⟨x,h⟩:=h
 obtain⟨b,h1,_⟩:=DataW.trod_bool underlying4 h
 rw[e]at h1
 exact⟨b,(List.cons.inj h1).1⟩
theorem eD{n:Nat}{cs:List Value}(h: ∃x,DataW.trod enc prog w base sp hd n 46 cs=some x): ∃l:Nd,cs=l.cells/\len l.s<=9223372036854775807:=by
 obtain⟨x,h⟩:=h
 obtain⟨xs,k,_,_,hl,b,e⟩:=DataW.trod_struct mY h
 have j:cs.length=6:=hl.trans Ai
 match cs,j with
 |[c0,q,c2,c3,c4,c5],_=>
  obtain⟨z0,rfl⟩:=NK (c:=c0) rfl (H5 e b (i:=0) (t:=3) (o:=0) (c:=1) Ai)
  obtain⟨y,rfl⟩:=NK (c:=q) rfl (H5 e b (i:=1) (t:=3) (o:=1) (c:=1) Ai)
  obtain⟨s2,rfl,_⟩:=SF (c:=c2) rfl (H5 e b (i:=2) (t:=9) (o:=2) (c:=1) Ai)
  obtain⟨z,rfl,A⟩:=SF (c:=c3) rfl (H5 e b (i:=3) (t:=9) (o:=3) (c:=1) Ai)
  obtain⟨B,rfl⟩:=AL4 (c:=c4) rfl (H5 e b (i:=4) (t:=4) (o:=4) (c:=1) Ai)
  obtain⟨z5,rfl⟩:=NK (c:=c5) rfl (H5 e b (i:=5) (t:=3) (o:=5) (c:=1) Ai)
  exact⟨⟨z0,y,s2,z,B,z5⟩,rfl,A⟩
theorem AL5{n:Nat}{cs:List Value}(h: ∃x,DataW.trod enc prog w base sp hd n 48 cs=some x): ∃t:Tm,cs=t.cells:=by
 obtain⟨x,h⟩:=h
 obtain⟨xs,k,_,_,hl,b,j⟩:=DataW.trod_struct nW h
 have l:cs.length=11:=hl.trans Ai
 match cs,l with
 |[c0,y,c2,c3,c4,c5,z,A,B,c9,q],_=>
  obtain⟨z0,rfl⟩:=NK (c:=c0) rfl (H5 j b (i:=0) (t:=3) (o:=0) (c:=1) Ai)
  obtain⟨C,rfl⟩:=NK (c:=y) rfl (H5 j b (i:=1) (t:=3) (o:=1) (c:=1) Ai)
  obtain⟨s2,rfl,_⟩:=SF (c:=c2) rfl (H5 j b (i:=2) (t:=9) (o:=2) (c:=1) Ai)
  obtain⟨D,rfl,_⟩:=SF (c:=c3) rfl (H5 j b (i:=3) (t:=9) (o:=3) (c:=1) Ai)
  obtain⟨z4,rfl⟩:=NK (c:=c4) rfl (H5 j b (i:=4) (t:=3) (o:=4) (c:=1) Ai)
  obtain⟨s,E,_⟩:=eD (H5 j b (i:=5) (t:=46) (o:=5) (c:=6) Ai)
  refine⟨⟨z0,C,s2,D,z4,s⟩,?_⟩
  have e:[c5,z,A,B,c9,q]=s.cells:=E
  unfold Nd.cells at e
  unfold Tm.cells
  simp only[List.cons.injEq,and_true]at e ⊢
  obtain⟨rfl,rfl,rfl,rfl,rfl,rfl⟩:=e
  simp
end
theorem AL6{H:Type}{enc:TypeId×Value->H}{W:World}{r:Reach}{J:Nat}{v:Value}{d:DataW H}{ps:List MemPlace}(y:Value.okWide prog W r J 23 v)(h:DataW.Trod enc prog W 0 (λ _=>true) true 23 v d ps):
  ∃l:Fl,Sl (NJ W) 11 l.length v (l.flatMap Tm.cells):=by
 obtain⟨a0,w,c0,rfl⟩:=okWide_slice underlying23 y
 obtain⟨fuel,h⟩:=h
 rcases open_slice underlying23 h with⟨h1,_⟩|⟨a,ln,cap,m,n,D,M,h1,_,hl,hm,A,_,hx⟩
 ·simp only[Value.cells,List.cons.injEq,Value.slice.injEq,and_true]at h1
  obtain⟨rfl,rfl,rfl⟩:=h1
  exact⟨[],Sl.nil _ 11⟩
 ·simp only[Value.cells,List.cons.injEq,Value.slice.injEq,and_true]at h1
  obtain⟨rfl,rfl,rfl⟩:=h1
  have ce:prog.cellsOf 48=11:=by kernel_rfl
  have each: ∀i,i<w-> ∃t:Tm,∀j,j<11->W.cell? ((a.add (i*11)).add j)=t.cells[j]?:=by
   intro i hi
   have B:i<m:=by rw[A,if_pos U];omega
   obtain⟨cs',z,K⟩:=hx i B
   rw[ce]at z
   obtain⟨_,_,k⟩:=World.cells?_some z
   obtain⟨t,rfl⟩:=AL5 ⟨_,K⟩
   exact⟨t,k⟩
  obtain⟨q,E⟩:=choose_lt each
  have hlen:((List.range w).map q).length=w:=by simp
  refine⟨(List.range w).map q,by rw[BR Tm.cells 11 Tm.AO],some a,c0,by rw[hlen],by rw[hlen];exact hl,hm,λ F=>?_⟩
  ·rw[hlen]at F
   have s:a.spot=none:=by
    have h0:=E 0 F 0 Aa
    rw[Nat.zero_mul]at h0
    have e:(a.add 0).add 0=a:=rfl
    rw[e]at h0
    cases hs:a.spot with
    |none=>rfl
    |some x=>
     unfold World.cell? at h0
     rw[hs]at h0
     split at h0<;>simp[Tm.cells]at h0
   obtain⟨b,o,spot⟩:=a
   have s:spot=none:=s
   subst s
   refine⟨b,o,rfl,λ j L=>?_⟩
   rw[BR Tm.cells 11 Tm.AO,hlen]at L
   have hi:j/11<w:=by omega
   have G:j%11<11:=by omega
   have h1:=E (j/11) hi (j%11) G
   rw[F6,F6]at h1
   have C:o+j/11*11+j%11=o+j:=by omega
   rw[C]at h1
   have z:=RE Tm.cells 11 Tm.AO ((List.range w).map q) (j/11) (j%11) (by rw[hlen];exact hi) G
   rw[show j/11*11+j%11=j from by omega]at z
   unfold NJ
   rw[h1,z]
   simp
section
variable {H:Type} {enc:TypeId×Value->H} {w:World} {base:Nat} {sp:Nat->Bool} {hd:Bool}
theorem AL7{n:Nat}{cs:List Value}(h: ∃x,DataW.trod enc prog w base sp hd n 52 cs=some x): ∃t:Tm,cs=t.cells:=by
 obtain⟨x,h⟩:=h
 obtain⟨xs,k,_,_,hl,b,j⟩:=DataW.trod_struct nX h
 have l:cs.length=11:=hl.trans Ai
 match cs,l with
 |[c0,y,c2,c3,c4,c5,z,A,B,c9,q],_=>
  obtain⟨z0,rfl⟩:=NK (c:=c0) rfl (H5 j b (i:=0) (t:=3) (o:=0) (c:=1) Ai)
  obtain⟨C,rfl⟩:=NK (c:=y) rfl (H5 j b (i:=1) (t:=3) (o:=1) (c:=1) Ai)
  obtain⟨s2,rfl,_⟩:=SF (c:=c2) rfl (H5 j b (i:=2) (t:=9) (o:=2) (c:=1) Ai)
  obtain⟨D,rfl,_⟩:=SF (c:=c3) rfl (H5 j b (i:=3) (t:=9) (o:=3) (c:=1) Ai)
  obtain⟨z4,rfl⟩:=NK (c:=c4) rfl (H5 j b (i:=4) (t:=3) (o:=4) (c:=1) Ai)
  obtain⟨s,E,_⟩:=eD (H5 j b (i:=5) (t:=46) (o:=5) (c:=6) Ai)
  refine⟨⟨z0,C,s2,D,z4,s⟩,?_⟩
  have e:[c5,z,A,B,c9,q]=s.cells:=E
  unfold Nd.cells at e
  unfold Tm.cells
  simp only[List.cons.injEq,and_true]at e ⊢
  obtain⟨rfl,rfl,rfl,rfl,rfl,rfl⟩:=e
  simp
end
theorem AL8{H:Type}{enc:TypeId×Value->H}{W:World}{r:Reach}{J:Nat}{v:Value}{d:DataW H}{ps:List MemPlace}(y:Value.okWide prog W r J 25 v)(h:DataW.Trod enc prog W 0 (λ _=>true) true 25 v d ps):
  ∃l:Fl,Sl (NJ W) 11 l.length v (l.flatMap Tm.cells):=by
 obtain⟨a0,w,c0,rfl⟩:=okWide_slice underlying25 y
 obtain⟨fuel,h⟩:=h
 rcases open_slice underlying25 h with⟨h1,_⟩|⟨a,ln,cap,m,n,D,M,h1,_,hl,hm,A,_,hx⟩
 ·simp only[Value.cells,List.cons.injEq,Value.slice.injEq,and_true]at h1
  obtain⟨rfl,rfl,rfl⟩:=h1
  exact⟨[],Sl.nil _ 11⟩
 ·simp only[Value.cells,List.cons.injEq,Value.slice.injEq,and_true]at h1
  obtain⟨rfl,rfl,rfl⟩:=h1
  have ce:prog.cellsOf 52=11:=by kernel_rfl
  have each: ∀i,i<w-> ∃t:Tm,∀j,j<11->W.cell? ((a.add (i*11)).add j)=t.cells[j]?:=by
   intro i hi
   have B:i<m:=by rw[A,if_pos U];omega
   obtain⟨cs',z,K⟩:=hx i B
   rw[ce]at z
   obtain⟨_,_,k⟩:=World.cells?_some z
   obtain⟨t,rfl⟩:=AL7 ⟨_,K⟩
   exact⟨t,k⟩
  obtain⟨q,E⟩:=choose_lt each
  have hlen:((List.range w).map q).length=w:=by simp
  refine⟨(List.range w).map q,by rw[BR Tm.cells 11 Tm.AO],some a,c0,by rw[hlen],by rw[hlen];exact hl,hm,λ F=>?_⟩
  ·rw[hlen]at F
   have s:a.spot=none:=by
    have h0:=E 0 F 0 Aa
    rw[Nat.zero_mul]at h0
    have e:(a.add 0).add 0=a:=rfl
    rw[e]at h0
    cases hs:a.spot with
    |none=>rfl
    |some x=>
     unfold World.cell? at h0
     rw[hs]at h0
     split at h0<;>simp[Tm.cells]at h0
   obtain⟨b,o,spot⟩:=a
   have s:spot=none:=s
   subst s
   refine⟨b,o,rfl,λ j L=>?_⟩
   rw[BR Tm.cells 11 Tm.AO,hlen]at L
   have hi:j/11<w:=by omega
   have G:j%11<11:=by omega
   have h1:=E (j/11) hi (j%11) G
   rw[F6,F6]at h1
   have C:o+j/11*11+j%11=o+j:=by omega
   rw[C]at h1
   have z:=RE Tm.cells 11 Tm.AO ((List.range w).map q) (j/11) (j%11) (by rw[hlen];exact hi) G
   rw[show j/11*11+j%11=j from by omega]at z
   unfold NJ
   rw[h1,z]
   simp
theorem AL9{H:Type}{enc:TypeId×Value->H}{W:World}{r:Reach}{J:Nat}{v:Value}{d:DataW H}{ps:List MemPlace}(y:Value.okWide prog W r J 33 v)(h:DataW.Trod enc prog W 0 (λ _=>true) true 33 v d ps):
  ∃l:List Nd,Sl (NJ W) 6 l.length v (l.flatMap Nd.cells):=by
 obtain⟨a0,w,c0,rfl⟩:=okWide_slice underlying33 y
 obtain⟨fuel,h⟩:=h
 rcases open_slice underlying33 h with⟨h1,_⟩|⟨a,ln,cap,m,n,D,M,h1,_,hl,hm,A,_,hx⟩
 ·simp only[Value.cells,List.cons.injEq,Value.slice.injEq,and_true]at h1
  obtain⟨rfl,rfl,rfl⟩:=h1
  exact⟨[],Sl.nil _ 6⟩
 ·simp only[Value.cells,List.cons.injEq,Value.slice.injEq,and_true]at h1
  obtain⟨rfl,rfl,rfl⟩:=h1
  have ce:prog.cellsOf 46=6:=by kernel_rfl
  have each: ∀i,i<w-> ∃t:Nd,∀j,j<6->W.cell? ((a.add (i*6)).add j)=t.cells[j]?:=by
   intro i hi
   have B:i<m:=by rw[A,if_pos U];omega
   obtain⟨cs',z,K⟩:=hx i B
   rw[ce]at z
   obtain⟨_,_,k⟩:=World.cells?_some z
   obtain⟨t,rfl,_⟩:=eD ⟨_,K⟩
   exact⟨t,k⟩
  obtain⟨q,E⟩:=choose_lt each
  have hlen:((List.range w).map q).length=w:=by simp
  refine⟨(List.range w).map q,⟨by rw[BR Nd.cells 6 Nd.AO],some a,c0,by rw[hlen],by rw[hlen];exact hl,hm,λ F=>?_⟩⟩
  ·rw[hlen]at F
   have s:a.spot=none:=by
    have h0:=(E 0 F) 0 Aa
    rw[Nat.zero_mul]at h0
    have e:(a.add 0).add 0=a:=rfl
    rw[e]at h0
    cases hs:a.spot with
    |none=>rfl
    |some x=>
     unfold World.cell? at h0
     rw[hs]at h0
     split at h0<;>simp[Nd.cells]at h0
   obtain⟨b,o,spot⟩:=a
   have s:spot=none:=s
   subst s
   refine⟨b,o,rfl,λ j L=>?_⟩
   rw[BR Nd.cells 6 Nd.AO,hlen]at L
   have hi:j/6<w:=by omega
   have G:j%6<6:=by omega
   have h1:=(E (j/6) hi) (j%6) G
   rw[F6,F6]at h1
   have C:o+j/6*6+j%6=o+j:=by omega
   rw[C]at h1
   have z:=RE Nd.cells 6 Nd.AO ((List.range w).map q) (j/6) (j%6) (by rw[hlen];exact hi) G
   rw[show j/6*6+j%6=j from by omega]at z
   unfold NJ
   rw[h1,z]
   simp
end Go.Proofs.YtnoegalemkbbbaaGreatDoor
namespace Go.Eng
def JJ{α:Type}(xs:List (List α))(k:Int):List α:=(xs.take k.toNat).flatten
theorem Y0{α:Type}{xs:List (List α)}{k:Int}(h0:0<=k)(h1:k<len xs):JJ xs (k+1)=JJ xs k++at' xs k:=by
 have b:k.toNat<xs.length:=by unfold len at h1;omega
 unfold JJ at'
 rw[show(k+1).toNat=k.toNat+1 from by omega,List.take_add_one,List.flatten_append]
 simp[b]
theorem nY{α:Type}{xs:List (List α)}{k:Int}(h:len xs<=k):JJ xs k=xs.flatten:=by
 unfold JJ;rw[List.take_of_length_le (by unfold len at h;omega)]
theorem V2{α:Type}(xs:List (List α))(k:Int):len (JJ xs k)<=len xs.flatten:=by
 have h:(xs.take k.toNat).flatten++(xs.drop k.toNat).flatten=xs.flatten:=by rw[<-List.flatten_append,List.take_append_drop]
 unfold JJ
 rw[<-h,AN];have:=A6 (xs.drop k.toNat).flatten;omega
theorem at_mem{α:Type}[Inhabited α]{l:List α}{k:Int}(h0:0<=k)(h1:k<len l):at' l k∈l:=RG h0 h1
theorem HQ{α:Type}[Inhabited α]{l:List α}{k:Int}(h0:0<=k)(h1:k<len l):Eng.sub l 0 (k+1)=Eng.sub l 0 k++[at' l k]:=by
 obtain⟨b,e⟩:=DB l h0 h1
 unfold Eng.sub
 rw[e,show(k+1).toNat-(0:Int).toNat=k.toNat+1 by omega,show k.toNat-(0:Int).toNat=k.toNat by omega]
 simp only[Int.toNat_zero,List.drop_zero]
 rw[List.take_add_one,List.getElem?_eq_getElem b];rfl
theorem ID{α:Type}{l:List α}{k:Int}(h:len l<=k):Eng.sub l 0 k=l:=by
 unfold Eng.sub len at*
 simp only[Int.toNat_zero,List.drop_zero,Nat.sub_zero]
 exact List.take_of_length_le Aa
def DD(f:Fl)(i:Int)(us:List Tf)(R:Fl):Prop:=0<=i/\f.drop i.toNat=AM us++R
theorem Tf.FM (u:Tf):u.flat= { u.t with many:=len u.ps}::AM u.ps:=by cases u;rfl
theorem JK: ∀(a b:List Tf),AM (a++b)=AM a++AM b
 |[],b=>rfl
 |x::a,b=>by show x.flat++AM (a++b)=(x.flat++AM a)++AM b;rw[JK a b,List.append_assoc]
theorem DD.step {f:Fl}{i:Int}{u:Tf}{us:List Tf}{R:Fl}(h:DD f i (u::us) R):i<len f/\at' f i= { u.t with many:=len u.ps}/\DD f (i+1) (u.ps++us) R:=by
 obtain⟨h0,h1⟩:=h
 have e:f.drop i.toNat= { u.t with many:=len u.ps}::(AM u.ps++(AM us++R)):=by
  rw[h1];show(u.flat++AM us)++R=_;rw[Tf.FM];simp
 have b:i.toNat<f.length:=by
  rcases Nat.lt_or_ge i.toNat f.length with h|h
  ·exact h
  ·rw[List.drop_of_length_le h]at e;cases e
 refine⟨by unfold len;omega,?_,Aa,?_⟩
 ·obtain⟨k,j⟩:=DB f h0 (by unfold len;omega)
  rw[j]
  have:=congrArg (·[0]?) e
  simpa[b]using this
 ·rw[show(i+1).toNat=i.toNat+1 by omega,<-List.drop_drop,e]
  show AM u.ps++(AM us++R)=_
  rw[JK,List.append_assoc]
theorem DD.LC {f:Fl}{i:Int}{us:List Tf}{R:Fl}(h:DD f i us R)(hi:i<=len f):i+len (AM us)+len R=len f:=by
 have:=congrArg List.length h.2
 rw[List.length_drop,List.length_append]at this
 unfold len at*
 have:=h.1;omega
theorem DD.part {f:Fl}{i j:Int}{u:Tf}{R:Fl}(h:DD f i [u] R)(e:DD f j [] R)(k:i<=j)(l:j<=len f):Eng.sub f i j=u.flat:=by
 have n:=h.LC Aa
 have q:=e.LC l
 have b:AM [u]=u.flat:=by show u.flat++AM []=_;simp[AM]
 have e2:len (AM [])=0:=rfl
 rw[b]at n
 unfold Eng.sub
 rw[h.2,b,show j.toNat-i.toNat=u.flat.length by have:=h.1;unfold len at*;omega]
 exact List.take_left
theorem DD.root (t:Tf):DD t.flat 1 t.ps []:=⟨Aa,by rw[Tf.FM];show AM t.ps=_;simp⟩
theorem DD.next {f:Fl}{i:Int}{us:List Tf}{k:Nat}(h:DD f i (us.drop k) [])(b:k<us.length):DD f i [at' us k] (AM (us.drop (k+1))):=by
 refine⟨h.1,?_⟩
 rw[h.2]
 have e:us.drop k=at' us (k:Int)::us.drop (k+1):=by
  obtain⟨h1,j⟩:=DB us (i:=(k:Int)) Aa (by unfold len;omega)
  rw[j]
  rw[List.drop_eq_getElem_cons b];simp
 rw[e]
 show(at' us (k:Int)).flat++AM _++[]=_
 simp[AM]
theorem Tf.Y1 (t:Tf):(at' t.flat 0).many=len t.ps:=by rw[Tf.FM];rfl
theorem Tf.SG (t:Tf):at' t.flat 0= { t.t with many:=len t.ps}:=by rw[Tf.FM];rfl
theorem Tf.SH (t:Tf):t.flat≠[]:=by rw[Tf.FM];exact List.cons_ne_nil _ _
theorem Tf.D7 (t:Tf):0<len t.flat:=by rw[Tf.FM,AH];have:=A6 (AM t.ps);omega
theorem Tf.eE (t:Tf)(n:A0):(t.flat).set 0 { at' t.flat 0 with name:=n}=(t.named n).flat:=by cases t;rfl
theorem nZ: ∀xs:List Tf,AM xs=(xs.map Tf.flat).flatten
 |[]=>rfl
 |x::xs=>by show x.flat++AM xs=_;rw[nZ xs];rfl
theorem Tf.o3 (t:Tm)(ps:List Tf):(Tf.mk t ps).flat= { t with many:=len ps}::(ps.map Tf.flat).flatten:=by rw[<-nZ];rfl
theorem o4{x:Tf}: ∀ {xs:List Tf},x∈xs->len x.flat<=len (AM xs)
 |y::xs,h=>by
  have h1:=A6 y.flat
  have b:=A6 (AM xs)
  show _<=len (y.flat++AM xs)
  rw[AN]
  rcases List.mem_cons.1 h with rfl|h
  ·omega
  ·have:=o4 h;omega
theorem KP: ∀xs:List Tf,len xs<=len (AM xs)
 |[]=>Int.le_refl _
 |x::xs=>by
  have h1:=x.D7
  have b:=KP xs
  show _<=len (x.flat++AM xs)
  rw[AN,AH];omega
theorem Tf.AM0 {t:Tf}(h:t.t.name=[]):t.named []=t:=by
 obtain⟨tm,ps⟩:=t
 have b:tm.name=[]:=h
 show Tf.mk { tm with name:=[]} ps=_
 rw[<-b]
def V3:Tf->Prop
 | .mk t [a,b]=>t.op=4->a.t.name=[]/\b.t.name=[]/\V3 b
 | .mk t _=>t.op≠4
theorem V3.no {x:Tf}(h:x.t.op≠4):V3 x:=by
 obtain⟨t,ps⟩:=x
 have i:t.op≠4:=h
 unfold V3
 split
 ·rename_i t a b h1;cases h1;exact λ e=>absurd e i
 ·rename_i h1 e;cases e;exact i
theorem o5{α:Type}[Inhabited α](l m:List α){i:Int}(h0:0<=i)(h1:i<len l):at' (l++m) i=at' l i:=by
 unfold at' len at*
 simp only[List.getD]
 rw[List.getElem?_append_left Aa]
open Go.RowKit
mutual
def Tf.size:Tf->Nat
 | .mk _ ps=>1+AK ps
def AK:List Tf->Nat
 |[]=>0
 |x::l=>x.size+AK l
end
mutual
theorem Tf.BR:(x:Tf)->x.flat.length=x.size
 | .mk n ps=>by rw[Tf.flat,Tf.size,List.length_cons,V4 ps];omega
theorem V4:(l:List Tf)->(AM l).length=AK l
 |[]=>rfl
 |t::ts=>by rw[AM,AK,List.length_append,Tf.BR t,V4 ts]
end
theorem HR(a b:List Tf):AK (a++b)=AK a+AK b:=by
 induction a with
 |nil=>simp[AK]
 |cons x a e=>rw[List.cons_append,AK,AK,e];omega
theorem Tf.size_pos (t:Tf):1<=t.size:=by cases t;rw[Tf.size];omega
theorem Tf.size_eq (t:Tf):t.size=1+AK t.ps:=by cases t;rfl
theorem MM(l:List Tf):len l<=AK l:=by
 induction l with
 |nil=>exact Int.le_refl _
 |cons t l b=>rw[AH,AK];have:=t.size_pos;omega
def Tf.node (x:Tf):Tm:= { x.t with many:=len x.ps}
theorem Tf.JL (x:Tf):x.flat=x.node::AM x.ps:=by cases x;rfl
def BL(v:Fl)(i:Int)(l:List Tf):Prop:=0<=i/\ ∃pre post,v=pre++(AM l++post)/\len pre=i
theorem BL.le {v:Fl}{i:Int}{l:List Tf}(h:BL v i l):i+AK l<=len v:=by
 obtain⟨h0,pre,post,rfl,rfl⟩:=h
 unfold len;simp only[List.length_append,V4];omega
theorem BL.kids {v:Fl}{i:Int}{n:Tm}{ps ts:List Tf}(h:BL v i (.mk n ps::ts)):BL v (i+1) (ps++ts):=by
 obtain⟨h0,pre,post,rfl,rfl⟩:=h
 exact⟨Aa,pre++[{ n with many:=len ps}],post,by rw[AM,Tf.flat,JK];simp,by unfold len;simp⟩
theorem BL.QA {v:Fl}{i:Int}{x:Tf}{ts:List Tf}(h:BL v i (x::ts)):BL v (i+1) (x.ps++ts):=by cases x;exact h.kids
theorem BL.skip {v:Fl}{i:Int}{a b:List Tf}(h:BL v i (a++b)):BL v (i+AK a) b:=by
 obtain⟨h0,pre,post,rfl,rfl⟩:=h
 exact⟨Aa,pre++AM a,post,by rw[JK];simp,by unfold len;rw[List.length_append,V4];omega⟩
theorem BL.rest {v:Fl}{i:Int}{x:Tf}{b:List Tf}(h:BL v i (x::b)):BL v (i+x.size) b:=by
 have:=BL.skip (a:=[x]) h
 rw[AK,AK,Nat.add_zero]at this;exact this
theorem BL.head {v:Fl}{i:Int}{x:Tf}{b:List Tf}(h:BL v i (x::b)):BL v i [x]:=by
 obtain⟨h0,pre,post,rfl,rfl⟩:=h
 exact⟨h0,pre,AM b++post,by simp[AM],rfl⟩
theorem BL.node {v:Fl}{i:Int}{x:Tf}{b:List Tf}(h:BL v i (x::b)):0<=i/\i<len v/\at' v i=x.node:=by
 have hl:=h.le
 have e:=x.size_pos
 obtain⟨h0,pre,post,rfl,rfl⟩:=h
 rw[AK]at hl
 refine⟨h0,Aa,?_⟩
 unfold at' len
 rw[Int.toNat_natCast,List.getD_eq_getElem?_getD,List.getElem?_append_right (Nat.le_refl _),Nat.sub_self,AM,Tf.JL];rfl
theorem BL.top (x:Tf):BL x.flat 0 [x]:=⟨Int.le_refl _,[],[],by simp[AM],rfl⟩
theorem Tf.BA (x:Tf):at' x.flat 0=x.node:=(BL.top x).node.2.2
theorem Tf.eF (x:Tf):BL x.flat 1 x.ps:=by
 have:=(BL.top x).QA
 rw[List.append_nil]at this;exact this
theorem o6{v:Fl}{i:Int}{x:Tf}{b:List Tf}(h:BL v i (x::b)):Eng.sub v i (i+x.size)=x.flat:=by
 obtain⟨h0,pre,post,rfl,rfl⟩:=h
 unfold Eng.sub len
 have:(Int.toNat ((pre.length:Int)+x.size))-(Int.toNat (pre.length:Int))=x.flat.length:=by rw[Tf.BR];omega
 simp only[Int.toNat_natCast]at*
 rw[AM,List.drop_left,this,List.append_assoc,List.take_left]
def HS:Nat->Fl->Int->Int->Int
 |0,_,_,_=> -1
 |f+1,v,op,i=>if op<=0 then i else if len v<=i\/(at' v i).many<0\/len v<(at' v i).many then-1 else HS f v (op-1+(at' v i).many) (i+1)
def G2(v:Fl)(i:Int):Int:=HS (v.length+2) v 1 i
theorem eG{f:Nat}{v:Fl}{op i:Int}(h:op<=0):HS (f+1) v op i=i:=by rw[HS,if_pos h]
theorem AM1{v:Fl}: ∀(n:Nat) (ts:List Tf) (f:Nat) (op i:Int),AK ts=n->BL v i ts->0<=op->HS (f+n) v (op+len ts) i=HS f v op (i+n):=by
 intro n
 induction n with
 |zero=>
  intro ts f op i b e ho
  cases ts with
  |nil=>simp[len]
  |cons t ts=>rw[AK]at b;have:=t.size_pos;omega
 |succ n h=>
  intro ts f op i b e ho
  cases ts with
  |nil=>rw[AK]at b;omega
  |cons t ts=>
   obtain⟨j,ps⟩:=t
   have h1:=e.node
   have hle:=e.le
   have k:=MM ps
   have l:=A6 ps
   have q:=e.kids
   rw[AK,Tf.size]at b hle
   rw[show f+(n+1)=(f+n)+1 by omega,HS,if_neg (by rw[AH];have:=A6 ts;omega),h1.2.2]
   show(if len v<=i\/len ps<0\/len v<len ps then(-1:Int)else HS (f+n) v (op+len (Tf.mk j ps::ts)-1+len ps) (i+1))=_
   rw[if_neg Aa]
   have:=h (ps++ts) f op (i+1) (by rw[HR];omega) q ho
   rw[AN]at this
   rw[AH,show op+(len ts+1)-1+len ps=op+(len ps+len ts) by omega,this]
   congr 1;omega
theorem OK{v:Fl}{i:Int}{t:Tf}{b:List Tf}(h:BL v i (t::b)):G2 v i=i+t.size:=by
 have j:=h.head
 have hle:=j.le
 have:=h.1
 have e:AK [t]=t.size:=by simp[AK]
 obtain⟨f,k⟩: ∃f,v.length+2=(f+1)+t.size:=⟨v.length+1-t.size,by unfold len at hle;omega⟩
 unfold G2
 rw[k]
 have:=AM1 t.size [t] (f+1) 0 i e j Aa
 rw[show(0:Int)+len [t]=1 from rfl]at this
 rw[this,eG Aa]
mutual
def Tf.zm:Tf->Prop
 | .mk t ps=>t.many=0/\GS ps
def GS:List Tf->Prop
 |[]=>True
 |x::l=>x.zm/\GS l
end
theorem eH{a b:List Tf}:GS (a++b)↔GS a/\GS b:=by
 induction a with
 |nil=>simp[GS]
 |cons x a e=>rw[List.cons_append,GS,GS,e,and_assoc]
theorem Y2{l:List Tf}:GS l↔ ∀x∈l,x.zm:=by
 induction l with
 |nil=>simp[GS]
 |cons x l b=>rw[GS,b];simp
theorem o7{v:Fl}: ∀(f:Nat) (op i j:Int),HS f v op i=j->j≠ -1->0<=i->i<=len v->0<=op-> ∃ts,len ts=op/\GS ts/\BL v i ts/\j=i+AK ts
 |0,op,i,j,h,n,_,_,_=>by rw[HS]at h;omega
 |f+1,op,i,j,h,n,h0,h1,ho=>by
  rw[HS]at h
  split at h
  ·refine⟨[],by rw[len_nil];omega,trivial,⟨h0,v.take i.toNat,v.drop i.toNat,by simp[AM],by unfold len at*;rw[List.length_take];omega⟩,by simp[AK];omega⟩
  ·split at h
   ·omega
   ·rename_i y
    have e:i<len v:=by omega
    obtain⟨ts,q,e2,e3,e4⟩:=o7 f _ _ j h n Aa Aa Aa
    have s:(at' v i).many.toNat<=ts.length:=by unfold len at q;omega
    have k:len (ts.take (at' v i).many.toNat)=(at' v i).many:=by unfold len;rw[List.length_take];omega
    refine⟨.mk { at' v i with many:=0} (ts.take (at' v i).many.toNat)::ts.drop (at' v i).many.toNat,?_,?_,?_,?_⟩
    ·rw[AH];unfold len at*;rw[List.length_drop];omega
    ·have:=List.take_append_drop (at' v i).many.toNat ts
     rw[<-this,eH]at e2
     rw[GS,Tf.zm]
     exact⟨⟨rfl,e2.1⟩,e2.2⟩
    ·obtain⟨_,pre,post,l,hp⟩:=e3
     refine⟨h0,v.take i.toNat,post,?_,by unfold len at*;rw[List.length_take];omega⟩
     rw[AM,Tf.flat,k,List.cons_append,<-JK,List.take_append_drop]
     have b:pre=v.take (i.toNat+1):=by
      have:pre=v.take pre.length:=by rw[l];simp
      rw[this];congr 1;unfold len at hp;omega
     have hi:i.toNat<v.length:=by unfold len at e;omega
     have w:v.take (i.toNat+1)=v.take i.toNat++[at' v i]:=by
      rw[List.take_add_one,List.getElem?_eq_getElem hi];simp[at',List.getD_eq_getElem?_getD,hi]
     rw[b,w]at l
     calc v=(v.take i.toNat++[at' v i])++(AM ts++post):=l
      _=_:=by simp
    ·rw[e4,AK,Tf.size]
     have:=HR (ts.take (at' v i).many.toNat) (ts.drop (at' v i).many.toNat)
     rw[List.take_append_drop]at this
     omega
theorem o8{v:Fl}(h:G2 v 0=len v)(i:v≠[]): ∃x:Tf,x.zm/\v=x.flat:=by
 have hl:=A6 v
 obtain⟨ts,b,e2,e3,e4⟩:=o7 _ _ _ _ h Aa (Int.le_refl _) hl Aa
 cases ts with
 |nil=>rw[len_nil]at b;omega
 |cons t ts=>
  cases ts with
  |cons u us=>rw[AH,AH]at b;have:=A6 us;omega
  |nil=>
   refine⟨t,e2.1,?_⟩
   obtain⟨_,pre,post,e,hp⟩:=e3
   have h1:pre=[]:=List.eq_nil_of_length_eq_zero (by unfold len at hp;omega)
   have j:post=[]:=by
    refine List.eq_nil_of_length_eq_zero ?_
    have:=congrArg List.length e
    simp only[List.length_append,V4]at this
    unfold len at e4;omega
   rw[e,h1,j];simp[AM]
theorem o9(x:Tf):G2 x.flat 0=len x.flat:=by
 rw[OK (BL.top x)]
 show 0+(x.size:Int)=(x.flat.length:Nat)
 rw[Tf.BR];omega
theorem Tf.oA (n:A0)(x:Tf):(x.named n).ps=x.ps:=by cases x;rfl
theorem Tf.LD (n:A0)(x:Tf):(x.named n).size=x.size:=by cases x;rfl
theorem MN{u:Tf}: ∀ {l:List Tf},u∈l->u.size<=AK l
 |t::l,h=>by
  rw[AK]
  rcases List.mem_cons.1 h with rfl|h
  ·omega
  ·have:=MN h;omega
theorem AM2: ∀(n:Nat) (a b:List Tf),AK a=n->GS a->GS b->len a=len b->AM a=AM b->a=b:=by
 intro n
 induction n with
 |zero=>
  intro a b e _ _ hl _
  cases a with
  |nil=>cases b with
   |nil=>rfl
   |cons y b=>rw[len_nil,AH]at hl;have:=A6 b;omega
  |cons x a=>rw[AK]at e;have:=x.size_pos;omega
 |succ n q=>
  intro a b e h i hl he
  cases a with
  |nil=>rw[AK]at e;omega
  |cons x a=>
   cases b with
   |nil=>rw[len_nil,AH]at hl;have:=A6 a;omega
   |cons y b=>
    obtain⟨t,ps⟩:=x
    obtain⟨u,j⟩:=y
    rw[GS,Tf.zm]at h i
    rw[AM,AM,Tf.flat,Tf.flat,List.cons_append,List.cons_append,<-JK,<-JK]at he
    obtain⟨h1,w⟩:=List.cons.inj he
    rw[AK,Tf.size]at e
    rw[AH,AH]at hl
    have hm:len ps=len j:=congrArg Tm.many h1
    have l:t=u:=by
     obtain⟨o,m,nm,s,k,c⟩:=t
     obtain⟨E,z,A,s',k',F⟩:=u
     have G:m=0:=h.1.1
     have e2:z=0:=i.1.1
     simp only[Tm.mk.injEq]at h1 ⊢
     exact⟨h1.1,Aa,h1.2.2.1,h1.2.2.2.1,h1.2.2.2.2.1,h1.2.2.2.2.2⟩
    have B:=q (ps++a) (j++b) (by rw[HR];omega) (eH.2 ⟨h.1.2,h.2⟩) (eH.2 ⟨i.1.2,i.2⟩) (by rw[AN,AN];omega) w
    have hlen:ps.length=j.length:=by unfold len at hm;omega
    obtain⟨C,D⟩:=List.append_inj B hlen
    rw[l,C,D]
theorem Tf.AM3 {x y:Tf}(hx:x.zm)(b:y.zm)(h:x.flat=y.flat):x=y:=by
 have:=AM2 _ [x] [y] U ⟨hx,trivial⟩ ⟨b,trivial⟩ U (by show x.flat++[]=y.flat++[];rw[h])
 exact(List.cons.inj this).1
theorem eI{s:A0}{p:Int}(c:UInt8):((A4 s p).toNat.toUInt8=c)↔A4 s p=(c.toNat:Int):=by
 unfold A4
 rw[Int.toNat_natCast,<-UInt8.toNat_inj]
 simp;omega
theorem eJ(x:UInt8): ¬0<=Lib.indexByte [] x:=by unfold Lib.indexByte;decide
theorem eK(c x:UInt8)(l:List UInt8):0<=Lib.indexByte (c::l) x↔c=x\/0<=Lib.indexByte l x:=by
 have hm: ∀l:List UInt8,-1<=Lib.indexByte l x:=by
  intro l
  induction l with
  |nil=>unfold Lib.indexByte;decide
  |cons a l i=>unfold Lib.indexByte;(repeat' split)<;>omega
 have:=hm l
 rw[Lib.indexByte]
 by_cases h:c=x
 ·rw[if_pos (by simpa using h)];exact⟨λ _=>.inl h,λ _=>Int.le_refl _⟩
 ·rw[if_neg (by simpa using h)]
  by_cases h2:Lib.indexByte l x= -1
  ·rw[if_pos (by simpa using h2)];exact⟨λ b=>by omega,λ b=>b.elim (λ e=>absurd e h) (λ e=>by omega)⟩
  ·rw[if_neg (by simpa using h2)];exact⟨λ _=>.inr Aa,λ _=>by omega⟩
theorem SI{s:A0}{c:UInt8}{p:Int}:D6 s [c] p=true↔p<len s/\A4 s p=(c.toNat:Int):=by
 unfold D6
 simp only[Bool.and_eq_true,decide_eq_true_eq,eK,eJ,or_false]
 rw[<-eI c,eq_comm (a:=c)]
theorem oB{s:A0}{c d:UInt8}{p:Int}:D6 s [c,d] p=true↔p<len s/\(A4 s p=(c.toNat:Int)\/A4 s p=(d.toNat:Int)):=by
 unfold D6
 simp only[Bool.and_eq_true,decide_eq_true_eq,eK,eJ,or_false]
 rw[<-eI c,<-eI d,eq_comm (a:=c),eq_comm (a:=d)]
def KQ(s:A0):Int×Int×Bool:=
 let a:Int:=if 0<len s/\A4 s 0=45 then 1 else 0
 if AV s a=a then(a,a,false)else if A4 s a=48 then(a,a+1,true)else(a,AV s a,true)
def G3(s:A0)(i:Int):Int×A0×Int:=
 if i=len s\/ ¬(A4 s i=101\/A4 s i=69)then(0,[],i)
 else if i+1<len s/\(A4 s (i+1)=43\/A4 s (i+1)=45)then
  (if A4 s (i+1)=45 then-1 else 1,Eng.sub s (i+1+1) (AV s (i+1+1)),AV s (i+1+1))
 else(1,Eng.sub s (i+1) (AV s (i+1)),AV s (i+1))
def H6(s:A0)(fg:A0)(e:Int)(i:Int):Nd×Int×Int:=
 let p:=G3 s i
 if p.2.2<len s\/(p.1≠0/\p.2.1=[])then(B6,p.2.2,1)
 else if 6<len (AS p.2.1)then(B6,0,2)
 else((CL (A4 s 0==45) fg (e+p.1*CK (AS p.2.1))).1,0,(CL (A4 s 0==45) fg (e+p.1*CK (AS p.2.1))).2)
def V5(s:A0):Nd×Int×Int:=
 let wh:=KQ s
 if wh.2.2=false then(B6,wh.1,1)
 else if wh.2.1<len s/\A4 s wh.2.1=46 then
  if AV s (wh.2.1+1)=wh.2.1+1 then(B6,AV s (wh.2.1+1),1)
  else H6 s (Eng.sub s wh.1 wh.2.1++Eng.sub s (wh.2.1+1) (AV s (wh.2.1+1))) (wh.2.1+1-AV s (wh.2.1+1)) (AV s (wh.2.1+1))
 else H6 s (Eng.sub s wh.1 wh.2.1) 0 wh.2.1
theorem SJ{α:Type}{s:List α}{i j:Int}(h0:0<=i)(h1:i<=j)(b:j<=len s):Eng.sub s i j=[]↔j=i:=by
 constructor
 ·intro h
  have:=FL h0 h1 b
  rw[h,len_nil]at this;omega
 ·rintro rfl;unfold Eng.sub;simp
theorem QB{s:A0}{i j k:Int}(h0:0<=i)(h1:0<=k)(b:i+k<j)(e:j<=len s):A4 (Eng.sub s i j) k=A4 s (i+k):=by
 unfold A4 Eng.sub
 rw[List.getD_eq_getElem?_getD,List.getElem?_take,if_pos Aa,List.getElem?_drop,<-List.getD_eq_getElem?_getD,show i.toNat+k.toNat=(i+k).toNat from by omega]
theorem eM{s h:A0}{x b c2 side:Int}{e:A0}(hp:G3 s b=(side,e,c2))(h0:side≠0):H6 s h x b=if e=[]\/c2<len s then(B6,c2,1)else JI (A4 s 0==45) h x e side:=by
 unfold H6 JI
 rw[hp]
 dsimp only
 by_cases c3:e=[]\/c2<len s
 ·rw[if_pos c3,if_pos (by rcases c3 with c3|c3;exact .inr ⟨h0,c3⟩;exact .inl c3)]
 ·rw[if_neg c3,if_neg (by rintro(c4|⟨_,c4⟩);exact c3 (.inr c4);exact c3 (.inl c4))]
theorem oC{s:A0}{neg:Bool}{z:A0}{x b:Int}(j:neg=(A4 s 0==45))(h0:0<=b)(h1:b<=len s):
  IV s neg z x b=H6 s z x b:=by
 subst j
 have n:= @oB s 101 69 b
 have e2:= @SI s 45 (b+1)
 have e3:= @SI s 43 (b+1)
 simp only[show((101:UInt8).toNat:Int)=101 from rfl,show((69:UInt8).toNat:Int)=69 from rfl,show((45:UInt8).toNat:Int)=45 from rfl,show((43:UInt8).toNat:Int)=43 from rfl]at n e2 e3
 unfold IV
 by_cases c1:D6 s [101,69] b=true
 ·have q:=n.1 c1
  have e: ¬(b=len s\/ ¬(A4 s b=101\/A4 s b=69)):=by rintro(h|h);omega;exact h q.2
  rw[if_pos c1,S8 c1]
  unfold XJ
  by_cases c2:D6 s [45] (b+1)=true
  ·have i:=e2.1 c2
   have hp:G3 s b=(-1,Eng.sub s (b+1+1) (AV s (b+1+1)),AV s (b+1+1)):=by
    unfold G3;rw[if_neg e,if_pos ⟨i.1,.inr i.2⟩,if_pos i.2]
   rw[eM hp Ab,S8 c2]
   simp only[c2,if_true]
  ·rw[S9 (by simpa using c2)]
   by_cases c4:D6 s [43] (b+1)=true
   ·have k:=e3.1 c4
    have hp:G3 s b=(1,Eng.sub s (b+1+1) (AV s (b+1+1)),AV s (b+1+1)):=by
     unfold G3;rw[if_neg e,if_pos ⟨k.1,.inl k.2⟩,if_neg Aa]
    rw[eM hp Ab,S8 c4]
    simp only[c2,Bool.false_eq_true,if_false]
   ·rw[S9 (by simpa using c4)]
    have w: ¬(b+1<len s/\(A4 s (b+1)=43\/A4 s (b+1)=45)):=by
     rintro⟨l,y|y⟩
     ·exact c4 (e3.2 ⟨l,y⟩)
     ·exact c2 (e2.2 ⟨l,y⟩)
    have hp:G3 s b=(1,Eng.sub s (b+1) (AV s (b+1)),AV s (b+1)):=by
     unfold G3;rw[if_neg e,if_neg w]
    rw[eM hp Ab]
    simp only[c2,Bool.false_eq_true,if_false]
 ·have w:b=len s\/ ¬(A4 s b=101\/A4 s b=69):=by
   by_cases h:b=len s
   ·exact .inl h
   ·exact .inr λ l=>c1 (n.2 ⟨Aa,l⟩)
  have hp:G3 s b=(0,[],b):=by unfold G3;rw[if_pos w]
  rw[if_neg c1,S9 (by simpa using c1)]
  unfold H6 JI
  rw[hp]
  dsimp only
  by_cases c3:b<len s
  ·rw[if_pos c3,if_pos (.inl c3)]
  ·rw[if_neg c3,if_neg (show ¬(b<len s\/((0:Int)≠0/\([]:A0)=[]))from by rintro(h|h);exact c3 h;exact h.1 rfl)]
   simp only[show AS []=[]from rfl,len_nil,show ¬((6:Int)<0)from by decide,if_false,show CK []=0 from rfl,Int.mul_zero]
theorem oD{s:A0}{a:Int}(b:BJ s [45] 0=a):GI s=
 if 1<len (Eng.sub s a (AV s a))/\A4 (Eng.sub s a (AV s a)) 0=48 then(B6,a+1,1)
 else if Eng.sub s a (AV s a)=[]then(B6,AV s a,1)
 else if D6 s [46] (AV s a)then
  if Eng.sub s (BJ s [46] (AV s a)) (AV s (BJ s [46] (AV s a)))=[]then(B6,AV s (BJ s [46] (AV s a)),1)
  else IV s (D6 s [45] 0) (Eng.sub s a (AV s a)++Eng.sub s (BJ s [46] (AV s a)) (AV s (BJ s [46] (AV s a)))) (-(len (Eng.sub s (BJ s [46] (AV s a)) (AV s (BJ s [46] (AV s a)))))) (AV s (BJ s [46] (AV s a)))
 else IV s (D6 s [45] 0) (Eng.sub s a (AV s a)) 0 (BJ s [46] (AV s a)):=by subst b;rfl
theorem eN{s:A0}{a b:Int}(hw:KQ s=(a,b,true)):V5 s=
  if b<len s/\A4 s b=46 then
   if AV s (b+1)=b+1 then(B6,AV s (b+1),1)
   else H6 s (Eng.sub s a b++Eng.sub s (b+1) (AV s (b+1))) (b+1-AV s (b+1)) (AV s (b+1))
  else H6 s (Eng.sub s a b) 0 b:=by
 unfold V5;rw[hw];simp only[Bool.true_eq_false,if_false]
theorem oE{s:A0}{a b:Int}{neg:Bool}(l:neg=(A4 s 0==45))(h0:0<=a)(h1:a<=b)(w:b<=len s):
  (if D6 s [46] b then
   if Eng.sub s (BJ s [46] b) (AV s (BJ s [46] b))=[]then(B6,AV s (BJ s [46] b),1)
   else IV s neg (Eng.sub s a b++Eng.sub s (BJ s [46] b) (AV s (BJ s [46] b))) (-(len (Eng.sub s (BJ s [46] b) (AV s (BJ s [46] b))))) (AV s (BJ s [46] b))
  else IV s neg (Eng.sub s a b) 0 (BJ s [46] b))=
  if b<len s/\A4 s b=46 then
   if AV s (b+1)=b+1 then(B6,AV s (b+1),1)
   else H6 s (Eng.sub s a b++Eng.sub s (b+1) (AV s (b+1))) (b+1-AV s (b+1)) (AV s (b+1))
  else H6 s (Eng.sub s a b) 0 b:=by
 have n:= @SI s 46 b
 simp only[show((46:UInt8).toNat:Int)=46 from rfl]at n
 by_cases c3:D6 s [46] b=true
 ·have q:=n.1 c3
  rw[if_pos c3,if_pos q,S8 c3]
  have e:=Q3 s (b+1) Aa Aa
  have k:=SJ (s:=s) (i:=b+1) (j:=AV s (b+1)) Aa e.1 e.2
  by_cases c4:AV s (b+1)=b+1
  ·rw[if_pos c4,if_pos (k.2 c4)]
  ·rw[if_neg c4,if_neg (λ h=>c4 (k.1 h))]
   rw[oC l Aa e.2,FL Aa e.1 e.2]
   congr 1;omega
 ·rw[if_neg c3,if_neg (λ h=>c3 (n.2 h)),S9 (by simpa using c3)]
  rw[oC l Aa Aa]
theorem AM4(s:A0):V5 s=GI s:=by
 have e:= @SI s 45 0
 simp only[show((45:UInt8).toNat:Int)=45 from rfl]at e
 have hl:=A6 s
 have i:D6 s [45] 0=(A4 s 0==45):=by
  rw[Bool.eq_iff_iff,e,beq_iff_eq]
  refine⟨λ h=>h.2,λ h=>⟨?_,h⟩⟩
  rcases Int.lt_or_le 0 (len s)with y|y
  ·exact y
  ·have:s=[]:=by cases s with|nil=>rfl|cons a l=>rw[AH]at y;have:=A6 l;omega
   subst this;revert h;decide
 have z:(if 0<len s/\A4 s 0=45 then(1:Int)else 0)=BJ s [45] 0:=by
  unfold BJ
  by_cases c:D6 s [45] 0=true
  ·rw[if_pos c,if_pos (e.1 c)];rfl
  ·rw[if_neg c,if_neg (λ h=>c (e.2 h))]
 have b:=dQ s [45] 0 hl
 generalize hA:BJ s [45] 0=a at*
 have hw:KQ s=if AV s a=a then(a,a,false)else if A4 s a=48 then(a,a+1,true)else(a,AV s a,true):=by unfold KQ;simp only[z]
 have n:=Q3 s a b.1 b.2
 have j:=SJ b.1 n.1 n.2
 have A:=FL b.1 n.1 n.2
 rw[oD hA]
 by_cases c0:AV s a=a
 ·rw[if_pos c0]at hw
  have q:=j.2 c0
  rw[q,if_neg (by rw[len_nil];omega),if_pos U,c0]
  unfold V5;rw[hw];rfl
 ·rw[if_neg c0]at hw
  have q: ¬Eng.sub s a (AV s a)=[]:=λ h=>c0 (j.1 h)
  have w:A4 (Eng.sub s a (AV s a)) 0=A4 s a:=by rw[QB b.1 Aa Aa n.2,Int.add_zero]
  by_cases c1:A4 s a=48
  ·rw[if_pos c1]at hw
   by_cases c2:1<len (Eng.sub s a (AV s a))
   ·have k:= @nC s a (a+1) b.1 Aa Aa
    unfold C1 at k
    simp only[Bool.and_eq_true,decide_eq_true_eq]at k
    have hp:G3 s (a+1)=(0,[],a+1):=by unfold G3;rw[if_pos (.inr Aa)]
    rw[if_pos ⟨c2,by rw[w,c1]⟩,eN hw,if_neg Aa]
    unfold H6;rw[hp];dsimp only
    rw[if_pos (.inl Aa)]
   ·have he:AV s a=a+1:=by omega
    rw[he]at c2 q n
    rw[he,if_neg (λ h=>c2 h.1),if_neg q,oE i b.1 Aa Aa,eN hw]
  ·rw[if_neg c1]at hw
   rw[if_neg (λ h=>c1 (by rw[<-w];exact h.2)),if_neg q,oE i b.1 Aa Aa,eN hw]
theorem AM5{s:A0}{i:Int}(h0:0<=i)(h1:i<=len s):(-1<=(G3 s i).1/\(G3 s i).1<=1)/\(0<=len (G3 s i).2.1/\len (G3 s i).2.1<=len s)/\(i<=(G3 s i).2.2/\(G3 s i).2.2<=len s)/\ ∀b∈(G3 s i).2.1,CP b=true:=by
 unfold G3
 split
 ·refine⟨by dsimp only;omega,⟨Int.le_refl _,A6 s⟩,by dsimp only;omega,by intro b e;cases e⟩
 ·rename_i j
  have k:i<len s:=by
   rcases Int.lt_or_le i (len s)with h|h
   ·exact h
   ·exact absurd (.inl Aa) j
  split
  ·rename_i n
   have l:=Q3 s (i+1+1) Aa Aa
   refine⟨by dsimp only;split<;>omega,Q4 _ _ _,by dsimp only;omega,XK Aa⟩
  ·have l:=Q3 s (i+1) Aa Aa
   refine⟨by dsimp only;omega,Q4 _ _ _,by dsimp only;omega,XK Aa⟩
theorem AM6{t:A0}(h: ∀b∈t,CP b=true)(hl:len t<=6)(k:Int):0<=CK (Eng.sub t 0 k)/\CK (Eng.sub t 0 k)<1000000:=by
 have h1:=nI (Eng.sub t 0 k) 0 (λ b e=>h b ((List.take_sublist _ _).subset e|>λ x=>by simpa using x)) Aa
 have i:=Q4 t 0 k
 have j:(10:Int)^ (Eng.sub t 0 k).length<=10^6:=by
  have:(10:Nat)^ (Eng.sub t 0 k).length<=10^6:=Nat.pow_le_pow_right Aa (by unfold len at*;omega)
  exact_mod_cast this
 unfold CK;omega
theorem AM7(s:A0):0<=(KQ s).1/\(KQ s).1<=len s/\(KQ s).1<=(KQ s).2.1/\(KQ s).2.1<=len s/\((KQ s).2.2=true->0<len s):=by
 have hl:=A6 s
 have key: ∀a:Int,0<=a->a<=len s->(let w:=if AV s a=a then(a,a,false)else if A4 s a=48 then(a,a+1,true)else(a,AV s a,true);0<=w.1/\w.1<=len s/\w.1<=w.2.1/\w.2.1<=len s/\(w.2.2=true->0<len s)):=by
  intro a h0 h1
  have b:=Q3 s a h0 h1
  dsimp only
  split
  ·exact⟨h0,h1,Int.le_refl _,h1,λ h=>by cases h⟩
  ·split
   ·refine⟨h0,h1,?_,?_,λ _=>?_⟩<;>(try dsimp only)<;>omega
   ·refine⟨h0,h1,?_,?_,λ _=>?_⟩<;>(try dsimp only)<;>omega
 unfold KQ
 exact key _ (by split<;>omega) (by split<;>omega)
theorem AM8(s:A0):0<=(GI s).2.1/\(GI s).2.1<=len s/\((GI s).2.2=0\/(GI s).2.2=1\/(GI s).2.2=2\/(GI s).2.2=4):=by
 have j: ∀(neg:Bool) (b:A0) (x:Int),(CL neg b x).2=0\/(CL neg b x).2=2\/(CL neg b x).2=4:=by
  intro neg b x;unfold CL;(repeat' split)<;>simp
 have hw:=AM7 s
 have hl:=A6 s
 have hx: ∀(b:A0) (e i:Int),0<=i->i<=len s->0<=(H6 s b e i).2.1/\(H6 s b e i).2.1<=len s/\((H6 s b e i).2.2=0\/(H6 s b e i).2.2=1\/(H6 s b e i).2.2=2\/(H6 s b e i).2.2=4):=by
  intro b e i h0 h1
  have hp:=AM5 h0 h1
  unfold H6
  dsimp only
  split
  ·exact⟨by dsimp only;omega,by dsimp only;omega,.inr (.inl U)⟩
  ·split
   ·exact⟨Int.le_refl _,hl,.inr (.inr (.inl U))⟩
   ·refine⟨Int.le_refl _,hl,?_⟩
    dsimp only
    have:=j (A4 s 0==45) b (e+(G3 s i).1*CK (AS (G3 s i).2.1))
    rcases this with h|h|h<;>rw[h]<;>simp
 rw[<-AM4]
 unfold V5
 dsimp only
 split
 ·exact⟨by dsimp only;omega,by dsimp only;omega,.inr (.inl U)⟩
 ·split
  ·rename_i k
   have l:=Q3 s ((KQ s).2.1+1) Aa Aa
   split
   ·exact⟨by dsimp only;omega,by dsimp only;omega,.inr (.inl U)⟩
   ·exact hx _ _ _ Aa Aa
  ·exact hx _ _ _ Aa Aa
def QC(e:Int×Int):A0×Int:=if e.2=0 then([],0)else(toStr (Lib.encodeRuneZ e.1),e.2)
def HT(s:A0)(i:Int):A0×Int:=if A4 s i=92 then QC (BW (A5 s i))else(Eng.sub s i (i+rune s i),rune s i)
def MO(f:Nat)(s:A0)(i:Int)(o:A0):Prop:= ∃acc,o=toStr acc/\DS f s i acc=B1 s
theorem Y3(a b:List Int):toStr (a++b)=toStr a++toStr b:=List.map_append
theorem JM{s:A0}{i:Int}(h0:0<=i)(h1:i<len s){c:Int}(h:c<128):AX s i=c↔A4 s i=c:=by
 rcases MJ h0 h1 with⟨_,b,_,e⟩|⟨_,_,_,_,b,e⟩<;>omega
theorem oF{s:A0}{i:Int}(h0:0<=i)(h1:i<len s){c:Int}(h:c<=128):AX s i<c↔A4 s i<c:=by
 rcases MJ h0 h1 with⟨_,b,_,e⟩|⟨_,_,_,_,b,e⟩<;>omega
theorem Y4{s:A0}{i:Int}(h0:0<=i)(h1:i<len s):rune s i=0↔(AX s i=65533/\runeLen s i=1):=by
 rcases MJ h0 h1 with⟨e,j,b,_⟩|⟨e,j,b,_,_⟩
 ·exact⟨λ _=>⟨j,b⟩,λ _=>e⟩
 ·exact⟨λ h=>by omega,λ h=>absurd h b⟩
theorem MO.quote {f:Nat}{s o:A0}{i:Int}(h:MO f s i o)(b:(len s-i).toNat<=f)(h0:0<=i)(h1:i<len s)(e:A4 s i=34):B1 s=(o,i+1,0):=by
 obtain⟨acc,rfl,h⟩:=h
 rw[<-h,SA b h1,if_pos (by rw[SC s i h0,JM h0 h1 Ab];exact e)]
theorem MO.bad {f:Nat}{s o:A0}{i:Int}(h:MO f s i o)(e:(len s-i).toNat<=f)(h0:0<=i)(h1:i<len s)(j: ¬A4 s i=34)(b:(HT s i).2=0\/A4 s i<32):B1 s=([],i,1):=by
 obtain⟨acc,rfl,h⟩:=h
 rw[<-h,SA e h1,SC s i h0,Q7 s i h0,if_neg (by rw[JM h0 h1 Ab];exact j)]
 unfold HT QC at b
 by_cases h4:A4 s i=92
 ·rw[if_pos (by rw[JM h0 h1 Ab];exact h4)]
  rw[if_pos h4]at b
  have:(BW (A5 s i)).2=0:=by
   rcases b with b|b
   ·split at b
    ·assumption
    ·exact b
   ·omega
  rw[if_pos this]
 ·rw[if_neg (by rw[JM h0 h1 Ab];exact h4)]
  rw[if_neg h4]at b
  dsimp only at b
  rw[if_pos]
  rcases b with b|b
  ·exact .inr ((Y4 h0 h1).1 b)
  ·exact .inl ((oF h0 h1 Ab).2 b)
theorem MO.step {f:Nat}{s o:A0}{i:Int}(h:MO f s i o)(j:(len s-i).toNat<=f)(h0:0<=i)(h1:i<len s)(k: ¬A4 s i=34)(e: ¬((HT s i).2=0\/A4 s i<32)):
  MO (f-1) s (i+(HT s i).2) (o++(HT s i).1):=by
 obtain⟨acc,rfl,h⟩:=h
 rw[SA j h1,SC s i h0,Q7 s i h0,if_neg (by rw[JM h0 h1 Ab];exact k)]at h
 unfold HT QC at*
 by_cases h4:A4 s i=92
 ·rw[if_pos (by rw[JM h0 h1 Ab];exact h4)]at h
  rw[if_pos h4]at e ⊢
  by_cases b:(BW (A5 s i)).2=0
  ·rw[if_pos b]at e;exact absurd (.inl U) e
  ·rw[if_neg b]at h ⊢
   exact⟨_,(Y3 _ _).symm,h⟩
 ·rw[if_neg (by rw[JM h0 h1 Ab];exact h4)]at h
  rw[if_neg h4]at e ⊢
  dsimp only at e ⊢
  rw[if_neg]at h
  ·rcases MJ h0 h1 with⟨b,_⟩|⟨_,b,_,l,_⟩
   ·exact absurd (.inl b) e
   ·rw[b]at h
    exact⟨_,by rw[Y3,l],h⟩
  ·rintro(b|b)
   ·exact e (.inr ((oF h0 h1 Ab).1 b))
   ·exact e (.inl ((Y4 h0 h1).2 b))
theorem MO.eO {f:Nat}{s o:A0}{i:Int}(h:MO f s i o)(h1: ¬i<len s):B1 s=([],len s,1):=by
 obtain⟨acc,rfl,h⟩:=h
 rw[<-h,nN h1]
theorem AM9{s:A0}{i:Int}(h0:0<=i)(h1:i<len s):0<=(HT s i).2/\i+(HT s i).2<=len s/\len (HT s i).1<=4/\(¬A4 s i=92->len (HT s i).1=rune s i):=by
 have l:=XW (A5 s i)
 have n:=ED s i h0 Aa
 have b:=rune_le s i h1
 have e:=M4 s i
 have q:=FL (s:=s) (i:=i) (j:=i+rune s i) h0 Aa Aa
 have w:=Lib.encodeRuneZ_length (BW (A5 s i)).1
 unfold HT QC
 split
 ·rename_i k
  refine⟨?_,?_,?_,λ h=>absurd k h⟩
  ·split<;>(dsimp only;omega)
  ·split<;>(dsimp only;omega)
  ·split
   ·decide
   ·unfold len toStr;simp;omega
 ·dsimp only;exact⟨e.1,b,Aa,λ _=>by omega⟩
theorem MP{s:A0}{c:UInt8}:Lib.hasPrefix s [c]=true↔ ¬s=[]/\A4 s 0=(c.toNat:Int):=by
 cases s with
 |nil=>simp[Lib.hasPrefix]
 |cons a l=>
  have:A4 (a::l) 0=(a.toNat:Int):=rfl
  rw[this]
  simp only[Lib.hasPrefix,List.isPrefixOf,List.isPrefixOf_nil_left,Bool.and_true,beq_iff_eq,reduceCtorEq,not_false_eq_true,true_and]
  rw[<-UInt8.toNat_inj];omega
def K2:A0:=[34,92,47,98,102,110,114,116]
def eP:A0:=[34,92,47,8,12,10,13,9]
def SK(c k:Int):Prop:= ∀j:Int,0<=j->j<k->c≠A4 K2 j
theorem SK.step {c k:Int}(h:SK c k)(b: ¬c=A4 K2 k):SK c (k+1):=by
 intro j e i
 by_cases h5:j=k
 ·subst h5;exact b
 ·exact h j e Aa
theorem SK.eO {c k:Int}(h:SK c k)(b:8<=k):L8 c=false:=by
 have h0:=h 0 Aa Aa
 have h1:=h 1 Aa Aa
 have i:=h 2 Aa Aa
 have j:=h 3 Aa Aa
 have l:=h 4 Aa Aa
 have n:=h 5 Aa Aa
 have q:=h 6 Aa Aa
 have s:=h 7 Aa Aa
 have e:A4 K2 0=34/\A4 K2 1=92/\A4 K2 2=47/\A4 K2 3=98/\A4 K2 4=102/\A4 K2 5=110/\A4 K2 6=114/\A4 K2 7=116:=by decide
 unfold L8;simp;omega
theorem AN0{c k:Int}(h0:0<=k)(h1:k<8)(b:c=A4 K2 k):L8 c=true/\toStr (Lib.encodeRuneZ (ND c))=Eng.sub eP k (k+1):=by
 subst b
 have:k=0\/k=1\/k=2\/k=3\/k=4\/k=5\/k=6\/k=7:=by omega
 rcases this with rfl|rfl|rfl|rfl|rfl|rfl|rfl|rfl<;>exact⟨Ab,Ab⟩
theorem AN1{s:A0}(h1: ¬len s<2)(b:L8 (A4 s 1)=true):QC (BW s)=(toStr (Lib.encodeRuneZ (ND (A4 s 1))),2):=by
 unfold BW;rw[if_neg h1,if_pos b];rfl
def GJ(c:Int):Int:=if 48<=c/\c<=57 then c-48 else if 97<=c/\c<=102 then c-87 else if 65<=c/\c<=70 then c-55 else-1
theorem eQ(b:UInt8):MH b=GJ (b.toNat:Int):=by unfold MH GJ;(repeat' split)<;>omega
theorem oG{s:A0}{i k:Int}(h:0<=i)(h0:i<=k)(h1:k<len s): ∃b,Eng.sub s i (k+1)=Eng.sub s i k++[b]/\(b.toNat:Int)=A4 s k:=by
 have e:k.toNat<s.length:=by unfold len at h1;omega
 refine⟨s[k.toNat],?_,by simp[A4,e]⟩
 unfold Eng.sub
 have j:k.toNat-i.toNat<(s.drop i.toNat).length:=by rw[List.length_drop];omega
 rw[show(k+1).toNat-i.toNat=(k.toNat-i.toNat)+1 from by omega,List.take_succ_eq_append_getElem j,List.getElem_drop]
 congr 3;omega
theorem oH{s:A0}{i k:Int}(h:0<=i)(h0:i<=k)(h1:k<len s)(l:EK (Eng.sub s i k)=true)(e:0<=GJ (A4 s k)):
  EK (Eng.sub s i (k+1))=true/\FD (Eng.sub s i (k+1))=FD (Eng.sub s i k)*16+GJ (A4 s k):=by
 obtain⟨b,n,j⟩:=oG h h0 h1
 rw[n,<-j,<-eQ]
 rw[<-j,<-eQ]at e
 unfold EK FD at*
 rw[List.all_append,l,List.foldl_append]
 simp[e]
theorem oI{s:A0}{i k j:Int}(h:0<=i)(h0:i<=k)(h1:k<j)(b:j<=len s)(l:GJ (A4 s k)<0):EK (Eng.sub s i j)=false:=by
 unfold EK
 rw[List.all_eq_false]
 have e:k.toNat<s.length:=by unfold len at b;omega
 refine⟨s[k.toNat],?_,?_⟩
 ·unfold Eng.sub
  rw[List.mem_take_iff_getElem]
  refine⟨k.toNat-i.toNat,by rw[List.length_drop];omega,?_⟩
  rw[List.getElem_drop];congr 1;omega
 ·rw[eQ]
  have:((s[k.toNat]).toNat:Int)=A4 s k:=by simp[A4,e]
  rw[this];simp;omega
theorem AN2{l:A0}(h:EK l=true)(hl:len l<=4):0<=FD l/\FD l<=65535:=by
 unfold EK at h
 have:=UT l 0 (by simpa[List.all_eq_true]using h) Aa
 have b:(16:Int)^l.length<=16^4:=by
  have:(16:Nat)^l.length<=16^4:=Nat.pow_le_pow_right Aa (by unfold len at hl;omega)
  exact_mod_cast this
 unfold FD;omega
theorem AN3{l:A0}(h:EK l=true)(hl:len l<=3):0<=FD l/\FD l<=4095:=by
 unfold EK at h
 have:=UT l 0 (by simpa[List.all_eq_true]using h) Aa
 have b:(16:Int)^l.length<=16^3:=by
  have:(16:Nat)^l.length<=16^3:=Nat.pow_le_pow_right Aa (by unfold len at hl;omega)
  exact_mod_cast this
 unfold FD;omega
theorem Y5{s:A0}{i:Int}(h0:0<=i)(h1:i+6<=len s)(l:A4 s i=92)(n:A4 s (i+1)=117):
  BZ (A5 s i)=if EK (Eng.sub s (i+2) (i+6))then FD (Eng.sub s (i+2) (i+6))else-1:=by
 have e:Eng.sub (A5 s i) 2 6=Eng.sub s (i+2) (i+6):=by
  unfold Eng.sub A5;rw[List.drop_drop];congr 1
  ·omega
  ·congr 1;omega
 unfold BZ
 rw[if_neg (by rw[ED s i h0 Aa];omega),e,if_neg]
 obtain⟨a,b,q⟩:=KL s i h0 Aa
 obtain⟨c,h,hd⟩:=KL s (i+1) Aa Aa
 rw[b,h]
 have j:a=92:=by rw[<-UInt8.toNat_inj];show a.toNat=92;omega
 have k:c=117:=by rw[<-UInt8.toNat_inj];show c.toNat=117;omega
 rw[j,k];simp[Lib.hasPrefix]
theorem oJ{s:A0}{i:Int}(h0:0<=i)(h:len s<i+6\/ ¬A4 s i=92\/ ¬A4 s (i+1)=117):BZ (A5 s i)= -1:=by
 unfold BZ
 by_cases h1:len (A5 s i)<6
 ·rw[if_pos h1]
 ·rw[if_neg h1]
  have b:=XU s i h0
  have l:i+6<=len s:=by split at b<;>omega
  rw[if_pos]
  obtain⟨a,e,j⟩:=KL s i h0 Aa
  obtain⟨c,k,hd⟩:=KL s (i+1) Aa Aa
  rw[e,k]
  cases hp:Lib.hasPrefix (a::c::A5 s (i+1+1)) [92,117]with
  |false=>rfl
  |true=>
   exfalso
   simp[Lib.hasPrefix]at hp
   obtain⟨rfl,rfl⟩:=hp
   rcases h with h|h|h
   ·omega
   ·exact h (by rw[j];rfl)
   ·exact h (by rw[hd];rfl)
theorem oK{r:Int}(h:128<=r): ∀b∈toStr (Lib.encodeRuneZ r),128<=b.toNat:=by
 have key: ∀x∈Lib.encodeRuneZ r,128<=x:=by
  intro x hx
  unfold Lib.encodeRuneZ at hx
  (repeat' split at hx)<;>simp at hx<;>omega
 intro b e
 unfold toStr at e
 obtain⟨x,hx,rfl⟩:=List.mem_map.1 e
 have h1:=key x hx
 have i:=Lib.encodeRuneZ_byte r x hx
 simp;omega
theorem AN4: ∀n:Fin 128,L9 (UInt8.ofNat n.val)=E9 (n.val:Int):=by decide+kernel
theorem AN5{b:UInt8}(h:b.toNat<128):L9 b=E9 (b.toNat:Int):=by
 have:=AN4 ⟨b.toNat,h⟩
 simpa using this
theorem AN6{b:UInt8}(h:128<=b.toNat):L9 b=[b]:=by
 unfold L9 NG
 rw[if_neg Aa,if_neg Aa,if_neg Aa,if_neg Aa,if_neg Aa,if_neg Aa,if_neg Aa,if_neg Aa]
 simp only[toStr,List.map_cons,List.map_nil]
 rw[LA b _ U]
theorem AN7{l:A0}(h: ∀b∈l,128<=b.toNat):l.flatMap L9=l:=by
 induction l with
 |nil=>rfl
 |cons a l e=>rw[List.flatMap_cons,AN6 (h a (by simp)),e (λ b i=>h b (by simp[i]))];rfl
theorem SL{α:Type}(s:List α)(i j:Int)(h0:0<=i)(h1:i<=j):A5 s i=Eng.sub s i j++A5 s j:=by
 unfold A5 Eng.sub
 have:s.drop j.toNat=(s.drop i.toNat).drop (j.toNat-i.toNat):=by rw[List.drop_drop];congr 1;omega
 rw[this,List.take_append_drop]
theorem oL{r:Int}(h:128<=r):E9 r=toStr (Lib.encodeRuneZ r):=by
 unfold E9
 rw[if_neg (by unfold KM;simp;omega),if_neg Aa];rfl
theorem oM{s:A0}{i:Int}(h0:0<=i)(h1:i<=len s)(h:GO s i=true):GR s i=(A5 s i).flatMap L9:=by
 by_cases hlt:i<len s
 ·have A:=M4 s i
  have hle:=rune_le s i hlt
  rcases MJ h0 hlt with⟨k,_⟩|⟨k,n,_,q,w,l⟩
  ·rw[TX s i h0 hlt k]at h;cases h
  ·rw[<-N6 s i h0 hlt Aa]at h
   rw[dR h0 hlt,n,oM (i:=i+rune s i) Aa Aa h,SL s i (i+rune s i) h0 Aa,List.flatMap_append]
   congr 1
   by_cases hc:A4 s i<128
   ·obtain⟨y,z⟩:=w hc
    obtain⟨b,e,j⟩:=KL s i h0 hlt
    rw[y]
    have:Eng.sub s i (i+1)=[b]:=by
     have:=SL s i (i+1) h0 Aa
     rw[e]at this
     exact(List.append_cancel_right (this.symm.trans (List.singleton_append).symm)).trans U
    rw[this,z,j]
    simp only[List.flatMap_cons,List.flatMap_nil,List.append_nil]
    rw[AN5 Aa]
   ·rw[<-q,AN7 (oK (l Aa)),oL (l Aa)]
 ·rw[dS hlt,Q2 s i Aa];rfl
termination_by (len s-i).toNat
decreasing_by have:=M4 s i;omega
theorem Y6{s:A0}(h:CY s=true):E5 s=NH s:=by
 unfold E5 NH
 rw[oM Aa (A6 s) h];rfl
theorem oN{t:A0}{i:Int}(h0:0<=i):L3 t i=true↔ ¬t=[]/\ ∀j:Int,i<=j->j<len t->CJ (A4 t j) (j==0)=true:=by
 by_cases hlt:i<len t
 ·have k:(F7 (A4 t i)||i != 0&&C1 (A4 t i))=CJ (A4 t i) (i==0):=rfl
  by_cases hw:CJ (A4 t i) (i==0)=true
  ·rw[<-kN t i h0 hlt (by rw[k];exact hw),oN (i:=i+1) Aa]
   refine and_congr_right λ _=>⟨λ h j h1 b=>?_,λ h j h1 b=>h j Aa b⟩
   by_cases e:j=i
   ·subst e;exact hw
   ·exact h j Aa b
  ·rw[kO t i h0 hlt (by rw[k];exact hw)]
   exact⟨λ h=>(by cases h),λ h=>absurd (h.2 i (Int.le_refl _) hlt) hw⟩
 ·rw[kP t i hlt,bne_iff_ne]
  exact Iff.intro (λ h=>And.intro h (λ j h1 b=>by omega)) (λ h=>h.1)
termination_by (len t-i).toNat
theorem V6{t:A0}:FZ t=true↔ ¬t=[]/\ ∀j:Int,0<=j->j<len t->CJ (A4 t j) (j==0)=true:=oN (Int.le_refl 0)
theorem Y7{α:Type}(s:List α)(i j:Int)(h0:0<=i)(h1:0<=j):Eng.sub (A5 s i) 0 j=Eng.sub s i (i+j):=by
 unfold Eng.sub A5
 simp only[Int.toNat_zero,List.drop_zero,Nat.sub_zero]
 congr 1;omega
theorem AN8: ∀n:Fin 256,IW (UInt8.ofNat n.val)=decide ((48<=n.val/\n.val<=57)\/n.val=43\/n.val=45\/n.val=46\/n.val=101\/n.val=69):=by decide+kernel
theorem eR(b:UInt8):IW b=true↔(48<=b.toNat/\b.toNat<=57)\/b.toNat=43\/b.toNat=45\/b.toNat=46\/b.toNat=101\/b.toNat=69:=by
 have:=AN8 ⟨b.toNat,b.toNat_lt⟩
 simp only[UInt8.ofNat_toNat]at this
 rw[this,decide_eq_true_eq]
section tok
variable {s:A0} {i:Int}
end tok
theorem AN9{s:A0}(h1:0<len s)(h:A4 s 0=45\/C1 (A4 s 0)=true):1<=len (runN s):=by
 rw[XO]
 cases s with
 |nil=>exact absurd h1 Ab
 |cons b l=>
  have i:IW b=true:=by
   rw[eR]
   have e:A4 (b::l) 0=(b.toNat:Int):=rfl
   rw[e]at h
   unfold C1 at h
   simp only[Bool.and_eq_true,decide_eq_true_eq]at h
   omega
  rw[List.takeWhile_cons,i]
  simp[len];omega
theorem AO0{s:A0}(h1:0<len s):0<=(C0 s).2.1/\(C0 s).2.1<=len s/\((C0 s).2.2=0->1<=(C0 s).2.1)/\((C0 s).2.2=0\/(C0 s).2.2=1\/(C0 s).2.2=2\/(C0 s).2.2=4):=by
 have q:=ED s 1 Aa Aa
 have e:=UW (A5 s 1)
 have i:=UW s
 have j:=OH (A5 s 1)
 have k:=OH s
 have w:=AM8 (runN s)
 have l:len (runN s)<=len s:=by unfold runN;exact(Q4 _ _ _).2
 have b:=A6 (runN s)
 unfold C0
 split
 ·exact⟨by dsimp only;omega,by dsimp only;omega,λ _=>by dsimp only;omega,.inl U⟩
 ·split
  ·refine⟨by dsimp only;omega,by dsimp only;omega,λ _=>by dsimp only;omega,?_⟩
   dsimp only;omega
  ·split
   ·rename_i hm
    have hp:len (EU s)<=len s:=by
     rcases SD s with h|h
     ·exact absurd h hm
     ·exact XY h.2
    have:=GM hm
    exact⟨by dsimp only;omega,by dsimp only;omega,λ _=>by dsimp only;omega,.inl U⟩
   ·split
    ·rename_i n
     have:=GM n
     exact⟨by dsimp only;omega,by dsimp only;omega,λ _=>by dsimp only;omega,.inl U⟩
    ·split
     ·refine⟨by dsimp only;omega,by dsimp only;omega,λ h=>by dsimp only at h ⊢;omega,?_⟩
      dsimp only;omega
     ·split
      ·rename_i hd
       have hp:=AN9 h1 hd
       split
       ·rename_i he
        exact⟨by dsimp only;omega,by dsimp only;omega,λ h=>absurd h he,by dsimp only;omega⟩
       ·exact⟨by dsimp only;omega,by dsimp only;omega,λ h=>by dsimp only;omega,.inl U⟩
      ·exact⟨Int.le_refl _,by dsimp only;omega,λ h=>absurd h Ab,.inr (.inl U)⟩
end Go.Eng
