/-
  Parts Pure EngG EngH EngI EngJ, put together and made short by wip/py/merge.py (mini.py).
-/
import Derived.Test.YtmjpjbmeamnfpaaGreatDoorZe2
import Derived.Maps.RangeRun
import Derived.Orders
import Derived.Lib.AppendStr
import Derived.LoopN
import Derived.WideLaws
import Derived.Test.YtmjpjbmeamnfpaaGreatDoorZe0
set_option linter.unusedVariables false
set_option linter.unusedSimpArgs false
namespace Go.Eng
structure Nd where
 kind:Int
 many:Int
 name:A1
 s:A1
 neg:Bool
 e:Int
 deriving DecidableEq,Inhabited
structure Tk where
 kind:Int
 s:A1
 c:Nd
 pos:Int
 deriving DecidableEq,Inhabited
def Nd.cells (n:Nd):List Value:=[i64 n.kind,i64 n.many,str n.name,str n.s,.bool n.neg,i64 n.e]
def Tk.cells (t:Tk):List Value:=[i64 t.kind,str t.s,i64 t.c.kind,i64 t.c.many,str t.c.name,str t.c.s,.bool t.c.neg,i64 t.c.e,i64 t.pos]
abbrev MB(n:Nd):Value:=.agg #[i64 n.kind,i64 n.many,str n.name,str n.s,.bool n.neg,i64 n.e]
abbrev bE(t:Tk):Value:=.agg #[i64 t.kind,str t.s,i64 t.c.kind,i64 t.c.many,str t.c.name,str t.c.s,.bool t.c.neg,i64 t.c.e,i64 t.pos]
abbrev L5(n:Nd)(r:List Value):List Value:=i64 n.kind::i64 n.many::str n.name::str n.s:: .bool n.neg::i64 n.e::r
abbrev nK(t:Tk)(r:List Value):List Value:=i64 t.kind::str t.s::i64 t.c.kind::i64 t.c.many::str t.c.name::str t.c.s:: .bool t.c.neg::i64 t.c.e::i64 t.pos::r
theorem Nd.BZ (n:Nd):(Nd.cells n).length=6:=rfl
theorem Tk.BZ (t:Tk):(Tk.cells t).length=9:=rfl
theorem Nd.cells_one (n:Nd): ∀u∈Nd.cells n,u.oneCell'=true:=by intro u hu;simp[Nd.cells]at hu;rcases hu with rfl|rfl|rfl|rfl|rfl|rfl<;>rfl
theorem Tk.cells_one (t:Tk): ∀u∈Tk.cells t,u.oneCell'=true:=by intro u hu;simp[Tk.cells]at hu;rcases hu with rfl|rfl|rfl|rfl|rfl|rfl|rfl|rfl|rfl<;>rfl
def AY:Nd:=⟨0,0,[],[],false,0⟩
def AW(s:A1):List Value:=[str s]
theorem DN(s:A1):(AW s).length=1:=rfl
theorem bF(s:A1): ∀u∈AW s,u.oneCell'=true:=by intro u hu;simp[AW]at hu;subst hu;rfl
theorem nL{s:A1}{i:Int}(h0:0<=i)(h1:i<len s): ∃h:i.toNat<s.length,A2 s i=((s[i.toNat].toNat:Nat):Int):=by
 have h:i.toNat<s.length:=by unfold len at h1;omega
 exact⟨h,by simp[A2,h]⟩
def E4(c:Int):Bool:=decide (97<=c)&&decide (c<=122)||decide (65<=c)&&decide (c<=90)||c==95
def C7(c:Int):Bool:=decide (48<=c)&&decide (c<=57)
def IN(c:Int):Bool:=c==32||c==9||c==10||c==13
theorem bG{s:A1}{i:Int}(h0:0<=i)(h1:i<len s): ∃h:i.toNat<(ByteArray.mk ⟨s⟩).size,(((ByteArray.mk ⟨s⟩)[i.toNat]'h).toNat:Int)=A2 s i:=by
 have h:i.toNat<s.length:=by unfold len at h1;omega
 exact⟨h,by simp[A2,h];rfl⟩
theorem bH{s:A1}{i:Int}(h0:0<=i)(h1:i<len s)(h2:A2 s i<128):AQ s i=A2 s i/\runeLen s i=1:=by
 obtain⟨h,e⟩:=bG h0 h1
 have:=decode_ascii ⟨⟨s⟩⟩ i.toNat h (by omega)
 unfold AQ runeLen;rw[this];exact⟨e,rfl⟩
theorem nN{s:A1}{i:Int}(h0:0<=i)(h1:i<len s)(h2:128<=A2 s i):128<=AQ s i/\1<=runeLen s i:=by
 obtain⟨h,e⟩:=bG h0 h1
 have:=decode_high ⟨⟨s⟩⟩ i.toNat h (by omega)
 unfold AQ runeLen;omega
def BN(r:Int)(first:Bool):Bool:=E4 r||(!first&&C7 r)
theorem W0{r:Int}{f:Bool}(h:128<=r):BN r f=false:=by
 have e1:E4 r=false:=by
  unfold E4;simp only[Bool.or_eq_false_iff,Bool.and_eq_false_iff,decide_eq_false_iff_not,beq_eq_false_iff_ne];omega
 have e2:C7 r=false:=by
  unfold C7;simp only[Bool.and_eq_false_iff,decide_eq_false_iff_not];omega
 simp[BN,e1,e2]
theorem bI{s:A1}{i:Int}{f:Bool}(h0:0<=i)(h1:i<len s):BN (AQ s i) f=BN (A2 s i) f/\(BN (A2 s i) f=true->runeLen s i=1):=by
 rcases Int.lt_or_le (A2 s i) 128 with h|h
 ·obtain⟨e1,e2⟩:=bH h0 h1 h;rw[e1];exact⟨rfl,λ _=>e2⟩
 ·obtain⟨e1,e2⟩:=nN h0 h1 h
  rw[W0 h,W0 e1];exact⟨rfl,λ h=>by cases h⟩
def CC(s:A1)(i:Int):Int:=
 if h:0<=i/\i<len s then if BN (A2 s i) (i==0)then CC s (i+1)else i else i
termination_by (len s-i).toNat
decreasing_by omega
theorem NP{s:A1}{i:Int}(h0:0<=i)(h1:i<len s)(h2:BN (A2 s i) (i==0)=true):CC s (i+1)=CC s i:=by
 conv=>rhs;rw[CC]
 rw[dif_pos ⟨h0,h1⟩,if_pos h2]
theorem NQ{s:A1}{i:Int}(h0:0<=i)(h1:i<len s)(h2:BN (A2 s i) (i==0)=false):CC s i=i:=by
 rw[CC,dif_pos ⟨h0,h1⟩,h2];rfl
theorem NR{s:A1}{i:Int}(h1: ¬i<len s):CC s i=i:=by
 rw[CC,dif_neg (by omega)]
def B1(s:A1):A1:=Eng.sub s 0 (CC s 0)
def cont(s:A1)(i:Int):Bool:=decide (i<len s)&&decide (128<=A2 s i)&&decide (A2 s i<192)
def rune(s:A1)(i:Int):Int:=
 let c:=A2 s i
 if c<128 then 1
 else if decide (194<=c)&&decide (c<224)&&cont s (i+1)then 2
 else if decide (224<=c)&&decide (c<240)&&cont s (i+1)&&cont s (i+2)then
  if c==224&&decide (A2 s (i+1)<160)||c==237&&decide (160<=A2 s (i+1))then 0 else 3
 else if decide (240<=c)&&decide (c<245)&&cont s (i+1)&&cont s (i+2)&&cont s (i+3)then
  if c==240&&decide (A2 s (i+1)<144)||c==244&&decide (144<=A2 s (i+1))then 0 else 4
 else 0
def GU(s:A1)(i:Int):Bool:=
 if h:0<=i/\i<len s then
  if h2:0<rune s i then GU s (i+rune s i)else false
 else true
termination_by (len s-i).toNat
decreasing_by omega
def FH(s:A1):Bool:=GU s 0
theorem SS(s:A1)(i:Int):0<=rune s i/\rune s i<=4:=by
 unfold rune;dsimp only;repeat' split
 all_goals omega
theorem W3{s:A1}{i:Int}(h:cont s i=true):i<len s:=by
 unfold cont at h;simp only[Bool.and_eq_true,decide_eq_true_eq]at h;exact h.1.1
theorem rune_le(s:A1)(i:Int)(h1:i<len s):i+rune s i<=len s:=by
 have c1:cont s (i+1)=true->i+1<len s:=W3
 have c2:cont s (i+2)=true->i+2<len s:=W3
 have c3:cont s (i+3)=true->i+3<len s:=W3
 unfold rune;dsimp only;repeat' split
 all_goals first|omega|(simp_all;done)|(simp_all;omega)
theorem NS(s:A1)(i:Int)(h0:0<=i)(h1:i<len s)(h2:0<rune s i):GU s (i+rune s i)=GU s i:=by
 conv=>rhs;rw[GU]
 rw[dif_pos ⟨h0,h1⟩,dif_pos h2]
theorem bJ(s:A1)(i:Int)(h0:0<=i)(h1:i<len s)(h2:rune s i=0):GU s i=false:=by
 rw[GU,dif_pos ⟨h0,h1⟩,dif_neg (by omega)]
theorem W4(s:A1)(i:Int)(h1: ¬i<len s):GU s i=true:=by
 rw[GU,dif_neg (by omega)]
def JK(s:A1)(i:Int):Bool:=
 if h:0<=i/\i<len s then
  if E4 (A2 s i)||i != 0&&C7 (A2 s i)then JK s (i+1)else false
 else s != []
termination_by (len s-i).toNat
decreasing_by omega
def NT(s:A1):Bool:=JK s 0
theorem nO(s:A1)(i:Int)(h0:0<=i)(h1:i<len s)(h2:(E4 (A2 s i)||i != 0&&C7 (A2 s i))=true):JK s (i+1)=JK s i:=by
 conv=>rhs;rw[JK]
 rw[dif_pos ⟨h0,h1⟩,if_pos h2]
theorem nP(s:A1)(i:Int)(h0:0<=i)(h1:i<len s)(h2: ¬(E4 (A2 s i)||i != 0&&C7 (A2 s i))=true):JK s i=false:=by
 rw[JK,dif_pos ⟨h0,h1⟩,if_neg h2]
theorem nQ(s:A1)(i:Int)(h1: ¬i<len s):JK s i=(s != []):=by
 rw[JK,dif_neg (by omega)]
def JL(s:A1)(i:Int):Bool:=
 if h:0<=i/\i<len s then
  if C7 (A2 s i)then JL s (i+1)else false
 else true
termination_by (len s-i).toNat
decreasing_by omega
def HE(s:A1):Bool:=JL s 0
theorem nR(s:A1)(i:Int)(h0:0<=i)(h1:i<len s)(h2:C7 (A2 s i)=true):JL s (i+1)=JL s i:=by
 conv=>rhs;rw[JL]
 rw[dif_pos ⟨h0,h1⟩,if_pos h2]
theorem nS(s:A1)(i:Int)(h0:0<=i)(h1:i<len s)(h2: ¬C7 (A2 s i)=true):JL s i=false:=by
 rw[JL,dif_pos ⟨h0,h1⟩,if_neg h2]
theorem bK(s:A1)(i:Int)(h1: ¬i<len s):JL s i=true:=by
 rw[JL,dif_neg (by omega)]
def L6(n:Nd):Bool:=
 if n.kind != 3||n.many != 0|| !(n.name==[])|| !(HE n.s)||decide (100<len n.s)||decide (n.e< -1000)||decide (1000<n.e)||decide (1000<len n.s+n.e)then false
 else if n.s==[]then !n.neg&&n.e==0
 else A2 n.s 0 != 48&&A2 n.s (len n.s-1) != 48
theorem sub_succ{α:Type}[Inhabited α](a:List α)(k:Int)(h0:0<=k)(h1:k<len a):Eng.sub a 0 (k+1)=Eng.sub a 0 k++[a.getD k.toNat default]:=by
 have hk:k.toNat<a.length:=by unfold len at h1;omega
 unfold Eng.sub
 rw[show(k+1).toNat=k.toNat+1 from by omega]
 simp only[Int.toNat_zero,List.drop_zero,Nat.sub_zero]
 rw[List.take_succ_eq_append_getElem hk]
 simp[hk]
theorem JM{α:Type}(a:List α)(k:Int)(h:len a<=k):Eng.sub a 0 k=a:=by
 unfold Eng.sub;unfold len at h
 simp only[Int.toNat_zero,List.drop_zero,Nat.sub_zero]
 exact List.take_of_length_le (by omega)
def AD:List A1:=[[61,61],[33,61],[60,61],[62,61],[46],[124],[44],[58],[40],[41],[91],[93],[123],[125],[60],[62],[63]]
def bL(s:A1):Bool:=AD.contains s
def G9(t:Tk):Bool:=
 if t.kind==1 then bL t.s&&decide (t.c=AY)
 else if t.kind==2 then NT t.s&&decide (t.c=AY)
 else if t.kind==3||t.kind==4 then FH t.s&&decide (t.c=AY)
 else if t.kind==5 then t.s==[]&&L6 t.c
 else false
theorem SU{α:Type}[Inhabited α]{l:List α}{k:Int}(h0:0<=k)(h1:k<len l):l.getD k.toNat default∈l:=by
 have hk:k.toNat<l.length:=by unfold len at h1;omega
 simp[hk]
end Go.Eng
namespace Go.Eng
open Go.RowKit
theorem wrap_u8{x:Int}(h:0<=x/\x<=255):IntKind.u8.wrap x=x:=by
 simp only[IntKind.wrap,IntKind.bits,IntKind.signed];simp;omega
theorem wrap_i32{x:Int}(h: -2147483648<=x/\x<=2147483647):IntKind.i32.wrap x=x:=by
 simp only[IntKind.wrap,IntKind.bits,IntKind.signed];simp;omega
theorem wrap_u32{x:Int}(h:0<=x/\x<=4294967295):IntKind.u32.wrap x=x:=by
 simp only[IntKind.wrap,IntKind.bits,IntKind.signed];simp;omega
theorem wrap_u64{x:Int}(h:0<=x/\x<=18446744073709551615):IntKind.u64.wrap x=x:=by
 simp only[IntKind.wrap,IntKind.bits,IntKind.signed];simp;omega
section pv
variable {P:Program} {C:World->Prop} {L:Env} {W:Bool} {d:Option Tmp} {ty:TypeId} {ps:String} {af:Array Edge} {gd:Option (Nat×Bool)}
theorem PV.nT {t t':TypeId}{x y:Operand}{a b:Bool}(ht:P.underlying t=some .bool)(hx:A5 L W x (.bool a))(hy:A5 L W y (.bool b)):PV P C L W ⟨d,.binOp .eql t x y t',ty,ps,af,gd⟩ (.bool (a==b)):=
 .bin hx hy λ _ w _=>by
  have:(Op.equalIn Op.maxDepth t (.bool a) (.bool b)).run P w= .ok (a==b) w:=by rw[VX];exact VY ht w 9999 a b
  simp[go_sem,binOp,Op.equal,this]
theorem PV.nU {t t':TypeId}{x y:Operand}{a b:Bool}(ht:P.underlying t=some .bool)(hx:A5 L W x (.bool a))(hy:A5 L W y (.bool b)):PV P C L W ⟨d,.binOp .neq t x y t',ty,ps,af,gd⟩ (.bool (a != b)):=
 .bin hx hy λ _ w _=>by
  have:(Op.equalIn Op.maxDepth t (.bool a) (.bool b)).run P w= .ok (a==b) w:=by rw[VX];exact VY ht w 9999 a b
  simp[go_sem,binOp,Op.equal,this,bne]
end pv
def AU(x:Int):List Value:=[.int .u8 x]
theorem W5(x:Int):(AU x).length=1:=rfl
theorem K7(x:Int): ∀u∈AU x,u.oneCell'=true:=by intro u hu;simp[AU]at hu;subst hu;rfl
def toStr(l:List Int):A1:=l.map (λ x=>UInt8.ofNat x.toNat)
theorem foldl_push(l:List Int): ∀r:ByteArray,l.foldl (λ r n=>r.push (UInt8.ofNat n.toNat)) r=⟨r.data++(toStr l).toArray⟩:=by
 induction l with
 |nil=>intro r;simp[toStr]
 |cons a l ih=>intro r;rw[List.foldl_cons,ih];simp[toStr,ByteArray.push]
theorem SW(l:List Int):l.flatMap AU=l.map (Value.int .u8):=by
 induction l with
 |nil=>rfl
 |cons a l ih=>rw[List.flatMap_cons,ih];rfl
structure KV where
 key:Int
 val:Value
 born:Nat
def KV.C8 (k:IntKind)(p:KV):MapEntry:= { key:=.int k p.key,val:=p.val,born:=p.born}
def AI(k:IntKind)(l:List KV)(clock:Nat):Obj:=.map ⟨l.map (KV.C8 k)⟩ clock
def BD:List KV->Int->Option Value
 |[],_=>none
 |p::l,x=>if x==p.key then some p.val else BD l x
def GA:List KV->Int->Value->Option (List KV)
 |[],_,_=>none
 |p::l,x,v=>if x==p.key then some (⟨x,v,p.born⟩::l)else(GA l x v).map (p:: ·)
def EM(l:List KV)(c:Nat)(x:Int)(v:Value):List KV:=match GA l x v with|some l'=>l'|none=>l++[⟨x,v,c⟩]
def GB(l:List KV)(c:Nat)(x:Int)(v:Value):Nat:=match GA l x v with|some _=>c|none=>c+1
def GC:List KV->Int->List KV
 |[],_=>[]
 |p::l,x=>if x==p.key then l else p::GC l x
def FI:List KV->Int->Nat->Option (Nat×Value)
 |[],_,_=>none
 |p::l,x,i=>if x==p.key then some (i,p.val)else FI l x (i+1)
theorem bM(k:IntKind)(x:Int): ∀(l:List KV) (i:Nat),Instr.findNow (.int k) (.int k x) (l.map (KV.C8 k)) i=some (FI l x i)
 |[],_=>rfl
 |p::l,i=>by
  simp only[List.map_cons,Instr.findNow,KV.C8,Instr.sameNow,if_true,FI]
  by_cases h:(x==p.key)=true
  ·rw[h];rfl
  ·rw[Bool.not_eq_true]at h;rw[h];exact bM k x l (i+1)
theorem bN(x:Int): ∀(l:List KV) (i:Nat),(FI l x i).map (·.2)=BD l x
 |[],_=>rfl
 |p::l,i=>by
  simp only[FI,BD];split
  ·rfl
  ·exact bN x l (i+1)
theorem bO(k:IntKind)(x:Int)(v:Value): ∀(l:List KV) (i:Nat),(FI l x i=none/\GA l x v=none)\/ ∃j u p l',FI l x i=some (i+j,u)/\l[j]? =some p/\x=p.key/\GA l x v=some l'/\l'=l.modify j (λ p=>⟨x,v,p.born⟩)
 |[],_=>.inl ⟨rfl,rfl⟩
 |p::l,i=>by
  by_cases h:(x==p.key)=true
  ·refine .inr ⟨0,p.val,p,⟨x,v,p.born⟩::l,?_,rfl,by simpa using h,?_,by simp⟩
   ·simp only[FI,h,if_true];rfl
   ·simp only[GA,h,if_true]
  ·rcases bO k x v l (i+1)with⟨h1,h2⟩|⟨j,u,q,l',h1,h2,h3,h4,h5⟩
   ·refine .inl ⟨?_,?_⟩
    ·simp only[FI,h];exact h1
    ·simp only[GA,h,h2];rfl
   ·refine .inr ⟨j+1,u,q,p::l',?_,by simpa using h2,h3,?_,?_⟩
    ·simp only[FI,h];rw[show i+(j+1)=i+1+j from by omega];exact h1
    ·simp only[GA,h,h4];rfl
    ·subst h5;simp
theorem bP(x:Int): ∀(l:List KV) (i:Nat),(FI l x i=none/\GC l x=l)\/ ∃j u,FI l x i=some (i+j,u)/\j<l.length/\GC l x=l.eraseIdx j
 |[],_=>.inl ⟨rfl,rfl⟩
 |p::l,i=>by
  by_cases h:(x==p.key)=true
  ·exact .inr ⟨0,p.val,by simp only[FI,h,if_true];rfl,by simp,by simp only[GC,h,if_true];rfl⟩
  ·rcases bP x l (i+1)with⟨h1,h2⟩|⟨j,u,h1,h2,h3⟩
   ·exact .inl ⟨by simp only[FI,h];exact h1,by simp only[GC,h,h2];rfl⟩
   ·refine .inr ⟨j+1,u,?_,by simp;omega,?_⟩
    ·simp only[FI,h];rw[show i+(j+1)=i+1+j from by omega];exact h1
    ·simp only[GC,h,h3];simp
theorem run_checkKey{P:Program}{t:TypeId}{k:IntKind}(h:P.underlying t=some (.int k))(b:Bool)(x:Int)(w:World):(Instr.checkKey b 10000 t (.int k x)).run P w= .ok () w:=by
 show(Instr.checkKey b (9999+1) t (.int k x)).run P w= .ok () w
 unfold Instr.checkKey
 rw[Sem.run_bind,run_underlying h];rfl
theorem run_findKey{P:Program}{t:TypeId}{k:IntKind}(h:P.underlying t=some (.int k))(x:Int)(l:List KV)(w:World):(Instr.findKey t (.int k x) (l.map (KV.C8 k))).run P w= .ok (FI l x 0) w:=by
 simp only[Instr.findKey,Sem.run_bind,run_underlying h,Result.andThen_ok,bM];rfl
theorem W6{P:Program}{w:World}{b:Nat}{k:IntKind}{l:List KV}{c:Nat}(h:w.heap[b]? =some (AI k l c)):(getObj b).run P w= .ok (AI k l c) w:=by
 simp[getObj,Sem.run,h,AI]
theorem SX{P:Program}{w:World}{b:Nat}{k:IntKind}{l:List KV}{c:Nat}(h:w.heap[b]? =some (AI k l c))(o':Obj):(setObj b o').run P w= .ok () (EL w b o'):=by
 simp[setObj,Sem.run,h,EL,AI]
theorem W7{α β:Type}(g:α->β)(f:α->α)(f':β->β)(h: ∀x,f' (g x)=g (f x)): ∀(l:List α) (j:Nat),(l.map g).modify j f'=(l.modify j f).map g
 |[],j=>by simp
 |a::l,0=>by simp[h]
 |a::l,j+1=>by simp[W7 g f f' h l j]
theorem bQ{P:Program}{w:World}{b:Nat}{k:IntKind}{l:List KV}{c:Nat}{t kt e:TypeId}{z:Value}{x:Int}{ok:Bool}(ht:P.underlying t=some (.map kt e))(hk:P.underlying kt=some (.int k))(hz: ∀w,(zeroValue e).run P w= .ok z w)
  (h:w.heap[b]? =some (AI k l c)):(Instr.lookup t (.map (some b)) (.int k x) ok).run P w= .ok (if ok then .tuple #[(BD l x).getD z,.bool (BD l x).isSome]else(BD l x).getD z) w:=by
 simp only[Instr.lookup,Sem.run_bind,run_underlying ht,Result.andThen_ok,W6 h,AI,Sem.run_pure,run_checkKey hk,run_findKey hk]
 have hg:=bN x l 0
 cases hf:FI l x 0 with
 |none=>rw[hf]at hg;rw[<-hg];simp[Sem.run_bind,hz]
 |some q=>rw[hf]at hg;rw[<-hg];simp
theorem nV{P:Program}{w:World}(k:IntKind)(x:Int):(Instr.keyThatStays (.int k x) (.int k x)).run P w= .ok (.int k x) w:=by
 simp[Instr.keyThatStays,Instr.sameBits]
theorem nW{P:Program}{w:World}{b:Nat}{k:IntKind}{l:List KV}{c:Nat}{t kt e:TypeId}{x:Int}{v:Value}(ht:P.underlying t=some (.map kt e))(hk:P.underlying kt=some (.int k))
  (h:w.heap[b]? =some (AI k l c)):(Instr.mapUpdate t (.map (some b)) (.int k x) v).run P w= .ok () (EL w b (AI k (EM l c x v) (GB l c x v))):=by
 simp only[Instr.mapUpdate,Sem.run_bind,run_underlying ht,Result.andThen_ok,W6 h,AI,run_checkKey hk,run_findKey hk]
 rcases bO k x v l 0 with⟨h1,h2⟩|⟨j,u,p,l',h1,h2,h3,h4,h5⟩
 ·rw[h1]
  simp only[EM,GB,h2]
  rw[SX h];simp[KV.C8]
 ·rw[h1]
  have e1:((l.map (KV.C8 k)).toArray[0+j]?)=some (KV.C8 k p):=by simp[h2]
  have e2:(Array.mk (l.map (KV.C8 k)))[0+j]? =some (KV.C8 k p):=e1
  simp only[Sem.run_bind,e2,Option.map_some,Option.getD_some]
  rw[show(KV.C8 k p).key= .int k x from by rw[h3];rfl,nV]
  simp only[Result.andThen_ok,EM,GB,h4]
  rw[SX h]
  congr 3
  subst h5
  rw[Nat.zero_add]
  apply Array.ext'
  rw[Array.toList_modify]
  exact W7 (KV.C8 k) _ _ (λ x=>rfl) l j
theorem bR{α β:Type}(g:α->β): ∀(l:List α) (j:Nat),(l.map g).eraseIdx j=(l.eraseIdx j).map g
 |[],_=>by simp
 |a::l,0=>by simp
 |a::l,j+1=>by simp[bR g l j]
theorem nX{P:Program}{w:World}{b:Nat}{k:IntKind}{l:List KV}{c:Nat}{t kt e u ty:TypeId}{x:Int}(ht:P.underlying t=some (.map kt e))(hk:P.underlying kt=some (.int k))
  (h:w.heap[b]? =some (AI k l c)):(Builtin.delete_ #[t,u] ty #[.map (some b),.int k x]).run P w= .ok (.tuple #[]) (EL w b (AI k (GC l x) c)):=by
 unfold Builtin.delete_
 rw[show(#[t,u][0]?)=some t from rfl,show(#[Value.map (some b),Value.int k x][0]?)=some (Value.map (some b))from rfl,show(#[Value.map (some b),Value.int k x][1]?)=some (Value.int k x)from rfl]
 simp only[Sem.run_bind,run_underlying ht,Result.andThen_ok,W6 h]
 simp only[AI,Sem.run_bind,run_checkKey hk,Result.andThen_ok,run_findKey hk]
 rcases bP x l 0 with⟨h1,h2⟩|⟨j,v,h1,h2,h3⟩
 ·rw[h1,h2]
  simp only[Sem.run_bind]
  rw[SX h];rfl
 ·rw[h1,h3]
  simp only[Sem.run_bind]
  rw[SX h]
  simp only[Result.andThen_ok,Sem.run_pure]
  congr 3
  rw[Nat.zero_add]
  apply Array.ext'
  rw[Array.eraseIdxIfInBounds_eq]
  simp[h2]
  exact bR _ l j
section rl
variable {P:Program} {ops:Array Oper} {Q:Exit->Act->World->Prop} {N:Nat} {rest:List Oper} {L:Env} {w0 w:World} {M0 M:Mem} {Hs:List HO} {d:Nat} {ty:TypeId} {ps:String} {af:Array Edge}
theorem RL.split {op:Op}{gd:Option (Nat×Bool)}{W:Bool}(hw:CG ops L gd W)(hd:Nat.blt d N=true)
  (h1:W=true->RL P ops Q N (⟨some d,op,ty,ps,af,none⟩::rest) L w) (h2:W=false->RL P ops Q N rest ((d,false,.bool false)::L) w):RL P ops Q N (⟨some d,op,ty,ps,af,gd⟩::rest) L w:=by
 intro a hs
 have hwt:=CG.wanted (o:=⟨some d,op,ty,ps,af,gd⟩) hw hs
 cases W with
 |true=>
  have:=h1 U a hs
  unfold wpList at this ⊢
  rw[hwt,if_pos U]
  rw[show Region.wanted ⟨some d,op,ty,ps,af,none⟩ (yielded ops a.tmps)=true from rfl,if_pos U]at this
  exact this
 |false=>
  unfold wpList
  rw[hwt]
  exact h2 U _ (hs.put hd false (.bool false))
theorem RL.makeMap (k:IntKind){t:TypeId}(hS:St w0 M0 w M Hs)(hd:Nat.blt d N=true)
  (h: ∀w' b,St w0 M0 w' M (.raw b (AI k [] 0)::Hs)->RL P ops Q N rest ((d,true,.map (some b))::L) w'):RL P ops Q N (⟨some d,.makeMap t none,ty,ps,af,none⟩::rest) L w:=by
 intro a hs
 refine wpList_plain U λ K hK=>?_
 have key:(execOp a.eval ⟨some d,.makeMap t none,ty,ps,af,none⟩).run P w= .ok (.value (.map (some w.heap.size))) (w.alloc (.map #[] 0)):=rfl
 simp only[Oper.wp,key,Oper.upon_value]
 exact hK _ _ (h _ _ (hS.MA (AI k [] 0)) _ (hs.put hd true _))
theorem RL.mapUpdate {t kt e:TypeId}{k:IntKind}{m x y:Operand}{i b c c':Nat}{l l':List KV}{n:Int}{v:Value}{Hs':List HO}(ins:Bool)(hS:St w0 M0 w M Hs)(hi:Hs[i]? =some (.raw b (AI k l c)))(hm:A5 L true m (.map (some b)))(hx:A5 L true x (.int k n))(hy:A5 L true y v)
  (ht:P.underlying t=some (.map kt e)) (hk:P.underlying kt=some (.int k)) (hl:EM l c n v=l') (hc:GB l c n v=c') (hHs:Hs.set i (.raw b (AI k l' c'))=Hs')
  (h: ∀w',St w0 M0 w' M Hs'->RL P ops Q N rest L w'):RL P ops Q N (⟨none,if ins then .insert t m x y else .mapUpdate t m x y,ty,ps,af,none⟩::rest) L w:=by
 intro a hs
 refine wpList_plain U λ K hK=>?_
 have hb:=(hS.obj hi).2.1
 have key:(execOp a.eval ⟨none,if ins then .insert t m x y else .mapUpdate t m x y,ty,ps,af,none⟩).run P w= .ok .skip (EL w b (AI k l' c')):=by
  have:=nW (P:=P) (x:=n) (v:=v) ht hk hb
  cases ins<;>simp only[execOp,hm a N hs rfl,hx a N hs rfl,hy a N hs rfl,Bool.false_eq_true,if_true,if_false]<;>rw[Sem.run_bind,this,hl,hc]<;>rfl
 simp only[Oper.wp,key,Oper.upon_skip]
 exact hK _ _ (h _ (hHs▸hS.NM hi _) _ hs)
theorem RL.delete {t u kt e:TypeId}{k:IntKind}{m x:Operand}{i b c:Nat}{l l':List KV}{n:Int}{Hs':List HO}(hS:St w0 M0 w M Hs)(hi:Hs[i]? =some (.raw b (AI k l c)))(hm:A5 L true m (.map (some b)))(hx:A5 L true x (.int k n))
  (ht:P.underlying t=some (.map kt e)) (hk:P.underlying kt=some (.int k)) (hl:GC l n=l') (hHs:Hs.set i (.raw b (AI k l' c))=Hs')
  (h: ∀w',St w0 M0 w' M Hs'->RL P ops Q N rest L w'):RL P ops Q N (⟨none,.call ⟨.builtin .delete,#[m,x],#[t,u]⟩,ty,ps,af,none⟩::rest) L w:=by
 intro a hs
 refine wpList_plain U λ K hK=>?_
 have hb:=(hS.obj hi).2.1
 have key:(execOp a.eval ⟨none,.call ⟨.builtin .delete,#[m,x],#[t,u]⟩,ty,ps,af,none⟩).run P w= .ok (.value (.tuple #[])) (EL w b (AI k l' c)):=by
  have:=nX (P:=P) (x:=n) (u:=u) (ty:=ty) ht hk hb
  simp only[execOp,resolve,invoke,builtin,List.map_toArray,List.map_cons,List.map_nil,hm a N hs U,hx a N hs U,Sem.run_bind,Sem.run_pure,Result.andThen_ok,this,hl]
 simp only[Oper.wp,key,Oper.upon_value]
 exact hK _ _ (h _ (hHs▸hS.NM hi _) _ hs)
theorem RL.nY {t kt e:TypeId}{k:IntKind}{x:Operand}{i b c:Nat}{l:List KV}(hS:St w0 M0 w M Hs)(hi:Hs[i]? =some (.raw b (AI k l c)))(hx:A5 L true x (.map (some b)))(ht:P.underlying t=some (.map kt e))(hd:Nat.blt d N=true)
  (h: ∀w' r,St w0 M0 w' M (.raw r (.mapIter (some b) c #[] c)::Hs)->RL P ops Q N rest ((d,true,.pointer (some ⟨r,0,none⟩))::L) w'):RL P ops Q N (⟨some d,.range t x,ty,ps,af,none⟩::rest) L w:=by
 intro a hs
 refine wpList_plain U λ K hK=>?_
 have hb:=(hS.obj hi).2.1
 have key:(execOp a.eval ⟨some d,.range t x,ty,ps,af,none⟩).run P w= .ok (.value (.pointer (some ⟨w.heap.size,0,none⟩))) (w.alloc (.mapIter (some b) c #[] c)):=by
  simp only[execOp,hx a N hs U];rw[Sem.run_bind,run_range_map w t kt e b _ _ ht hb];rfl
 simp only[Oper.wp,key,Oper.upon_value]
 exact hK _ _ (h _ _ (hS.MA _) _ (hs.put hd true _))
theorem RL.nZ {k:IntKind}{x:Operand}{i j b r c since c0:Nat}{seen:Array Nat}{l:List KV}(hS:St w0 M0 w M Hs)(hi:Hs[i]? =some (.raw b (AI k l c)))(hj:Hs[j]? =some (.raw r (.mapIter (some b) since seen c0)))(hx:A5 L true x (.pointer (some ⟨r,0,none⟩)))
  (hold: ∀p∈l,p.born<since) (hsc:since<=c0) (hd:Nat.blt d N=true)
  (h1: ∀p∈l,¬seen.contains p.born=true-> ∀w',St w0 M0 w' M (Hs.set j (.raw r (.mapIter (some b) since (seen.push p.born) c)))->RL P ops Q N rest ((d,true,.tuple #[.bool true,.int k p.key,p.val])::L) w')
  (h2:(∀p∈l,seen.contains p.born=true)->RL P ops Q N rest ((d,true,.tuple #[.bool false])::L) w):RL P ops Q N (⟨some d,.next x false,ty,ps,af,none⟩::rest) L w:=by
 intro a hs
 refine wpList_plain U λ K hK=>?_
 have hb:=(hS.obj hi).2.1
 have hr:=(hS.obj hj).2.1
 rcases run_next_at (P:=P) w ty r b since c0 seen ⟨l.map (KV.C8 k)⟩ c hr hb (by intro x hx;simp only[List.mem_map]at hx;obtain⟨p,hp,rfl⟩:=hx;exact hold p hp) hsc with⟨he,hrun⟩|⟨en,hen,w1,hw1,hrun⟩
 ·have key:(execOp a.eval ⟨some d,.next x false,ty,ps,af,none⟩).run P w= .ok (.value (.tuple #[.bool false])) w:=by
   simp only[execOp,hx a N hs U];rw[Sem.run_bind,hrun];rfl
  simp only[Oper.wp,key,Oper.upon_value]
  refine hK _ _ (h2 ?_ _ (hs.put hd true _))
  intro p hp
  by_cases hc:seen.contains p.born=true
  ·exact hc
  ·exfalso
   have:(leftOf ⟨l.map (KV.C8 k)⟩ seen).size=0:=he
   unfold leftOf at this
   rw[Array.size_eq_zero_iff,Array.filter_eq_empty_iff]at this
   have:=this (KV.C8 k p) (by simp only[List.mem_toArray,Array.mem_def,List.mem_map];exact⟨p,hp,rfl⟩)
   apply this;show(!seen.contains p.born)=true
   simpa using hc
 ·unfold leftOf at hen
  simp only[Array.toList_filter,List.mem_filter,List.mem_map,Bool.not_eq_true']at hen
  obtain⟨⟨p,hp,rfl⟩,hns⟩:=hen
  have key:(execOp a.eval ⟨some d,.next x false,ty,ps,af,none⟩).run P w= .ok (.value (.tuple #[.bool true,.int k p.key,p.val])) (EL w1 r (.mapIter (some b) since (seen.push p.born) c)):=by
   simp only[execOp,hx a N hs U];rw[Sem.run_bind,hrun];rfl
  simp only[Oper.wp,key,Oper.upon_value]
  have hS1:St w0 M0 w1 M Hs:=by rcases hw1 with rfl|rfl;exact hS;exact hS.ext (Ext.drew _)
  exact hK _ _ (h1 p hp (by show ¬seen.contains p.born=true;have:seen.contains p.born=false:=hns;rw[this];simp) _ (hS1.NM hj _) _ (hs.put hd true _))
end rl
section pv
variable {P:Program} {C:World->Prop} {L:Env} {W:Bool} {d:Option Tmp} {ty:TypeId} {ps:String} {af:Array Edge} {gd:Option (Nat×Bool)} {w0 w:World} {M0 M:Mem} {Hs:List HO}
theorem PV.entry {k:IntKind}{x:Operand}{i j b r c since:Nat}{seen:Array Nat}{l:List KV}{p:KV}(hS:St w0 M0 w M Hs)(hC: ∀w',C w'->Ext w w')(hi:Hs[i]? =some (.raw b (AI k l c)))(hj:Hs[j]? =some (.raw r (.mapIter (some b) since (seen.push p.born) c)))(hx:A5 L W x (.pointer (some ⟨r,0,none⟩)))
  (hp:p∈l) (hn:(l.map (·.born)).Nodup):PV P C L W ⟨d,.entry x,ty,ps,af,gd⟩ (.tuple #[.int k p.key,p.val]):=by
 intro a N hs hW w' hw'
 have hS':=hS.ext (hC w' hw')
 have hb:=(hS'.obj hi).2.1
 have hr:=(hS'.obj hj).2.1
 have:=run_entry_at (P:=P) w' r b since seen ⟨l.map (KV.C8 k)⟩ c (KV.C8 k p) hr hb (List.mem_map.2 ⟨p,hp,rfl⟩) (by simpa[List.map_map,Function.comp_def,KV.C8]using hn)
 simp only[execOp,hx a N hs hW];rw[Sem.run_bind,this];rfl
theorem PV.lookup {k:IntKind}{t kt e:TypeId}{x y:Operand}{i b c:Nat}{l:List KV}{n:Int}{z v:Value}(hS:St w0 M0 w M Hs)(hC: ∀w',C w'->Ext w w')(hi:Hs[i]? =some (.raw b (AI k l c)))(hx:A5 L W x (.map (some b)))(hy:A5 L W y (.int k n))
  (ht:P.underlying t=some (.map kt e)) (hk:P.underlying kt=some (.int k)) (hz: ∀w,(zeroValue e).run P w= .ok z w) (hv:(BD l n).getD z=v):PV P C L W ⟨d,.lookup t x y false,ty,ps,af,gd⟩ v:=by
 intro a N hs hW w' hw'
 have hb:=((hS.ext (hC w' hw')).obj hi).2.1
 have:=bQ (P:=P) (x:=n) (ok:=false) ht hk hz hb
 simp only[execOp,hx a N hs hW,hy a N hs hW];rw[Sem.run_bind,this,<-hv];rfl
theorem PV.SY {k:IntKind}{t kt e:TypeId}{x y:Operand}{i b c:Nat}{l:List KV}{n:Int}{z v:Value}{q:Bool}(hS:St w0 M0 w M Hs)(hC: ∀w',C w'->Ext w w')(hi:Hs[i]? =some (.raw b (AI k l c)))(hx:A5 L W x (.map (some b)))(hy:A5 L W y (.int k n))
  (ht:P.underlying t=some (.map kt e)) (hk:P.underlying kt=some (.int k)) (hz: ∀w,(zeroValue e).run P w= .ok z w) (hv:(BD l n).getD z=v) (hq:(BD l n).isSome=q):PV P C L W ⟨d,.lookup t x y true,ty,ps,af,gd⟩ (.tuple #[v,.bool q]):=by
 intro a N hs hW w' hw'
 have hb:=((hS.ext (hC w' hw')).obj hi).2.1
 have:=bQ (P:=P) (x:=n) (ok:=true) ht hk hz hb
 simp only[execOp,hx a N hs hW,hy a N hs hW];rw[Sem.run_bind,this,<-hv,<-hq];rfl
end pv
end Go.Eng
namespace Go.Eng
open Go.RowKit
section ra
variable {P:Program} {md:Region.Mode} {ops:Array Oper} {Q:Exit->Act->World->Prop} {N f:Nat} {listed:Array Bool} {L:Env} {w:World}
def Qn(K:Act->World->Prop)(Q:Exit->Act->World->Prop):Exit->Act->World->Prop
 | .normal,a,w=>K a w
 |e,a,w=>Q e a w
def RA(P:Program)(md:Region.Mode)(ops:Array Oper)(Q:Exit->Act->World->Prop)(N f:Nat)(listed:Array Bool)(L:Env)(w:World):Prop:= ∀a,AF a N L->wpAny P md ops Q f listed a w
theorem bS{o:Oper}{a:Act}{K K':Act->World->Prop}: ∀r:Result Next,o.upon P a K' (Qn K Q) r->o.upon P a K' Q r:=by
 intro r h
 cases r with
 |ok n w'=>
  cases n with
  |enter f args=>
   refine Calls.mono h ?_
   intro e w'' he
   cases e<;>exact he
  |_=>exact h
 |halt x w'=>cases x<;>exact h
theorem RA.of {is:List Nat}(hr:Region.ready md ops listed=is)(hne:is.isEmpty=false)(h: ∀i∈is,RL P ops (Qn (λ a' w'=>wpAny P md ops Q f (listed.setIfInBounds i true) a' w') Q) N (ops[i]?).toList L w):RA P md ops Q N (f+1) listed L w:=by
 intro a hs
 refine⟨λ h0=>?_,λ i hi=>?_⟩
 ·rw[hr]at h0;subst h0;cases hne
 ·rw[hr]at hi
  have h1:=h i hi a hs
  unfold wpOp
  cases ho:ops[i]? with
  |none=>rw[ho]at h1;exact h1
  |some o=>
   rw[ho]at h1
   simp only[Option.toList_some]at h1
   unfold wpList at h1
   dsimp only
   split
   ·rename_i hw
    rw[if_pos hw]at h1
    rcases h1 with h1|⟨h1,h2⟩
    ·exact .inl (bS _ h1)
    ·exact .inr ⟨h1,h2⟩
   ·rename_i hw
    rw[if_neg hw]at h1;exact h1
theorem RA.next {K:Act->World->Prop}(h: ∀a,AF a N L->K a w): ∀a,AF a N L->(Qn K Q) .normal a w:=h
theorem RA.nil (hr:Region.ready md ops listed=[])(h: ∀a,AF a N L->Q .normal a w):RA P md ops Q N 0 listed L w:=λ a hs=>⟨hr,h a hs⟩
theorem RA.one {i:Nat}(hr:Region.ready md ops listed=[i])(h:RL P ops (Qn (λ a' w'=>wpAny P md ops Q f (listed.setIfInBounds i true) a' w') Q) N (ops[i]?).toList L w):RA P md ops Q N (f+1) listed L w:=
 RA.of hr U (by simpa using h)
theorem RA.two {i j:Nat}(hr:Region.ready md ops listed=[i,j])(h1:RL P ops (Qn (λ a' w'=>wpAny P md ops Q f (listed.setIfInBounds i true) a' w') Q) N (ops[i]?).toList L w)
  (h2:RL P ops (Qn (λ a' w'=>wpAny P md ops Q f (listed.setIfInBounds j true) a' w') Q) N (ops[j]?).toList L w):RA P md ops Q N (f+1) listed L w:=
 RA.of hr U (by simpa using⟨h1,h2⟩)
theorem CW.o3 {w0:World}{M0 M:Mem}{Hs:List HO}{id:Nat}{l:List Oper}(hS:St w0 M0 w M Hs)(hm:P.follows .mixedOrders=true)
  (h: ∀w1,St w0 M0 w1 M Hs->RA P .any l.toArray Q N l.length (Array.replicate l.length false) L w1):CW P (.region id l.toArray true) Q N L w:=by
 intro a hs
 refine wp_region_any hm ?_
 have:=h _ (hS.ext (Ext.drew w)) a hs
 simpa using this
end ra
end Go.Eng
namespace Go.Eng
open Go.RowKit Go.Lib
theorem o4{P:Program}(w:World)(base:Nat)(t u ty e:TypeId)(i:TypeInfo)(ht:P.underlying t=some (.slice e))(hu:P.underlying u=some .string)(hi:P.info? e=some i)(hz:i.zero=some (.int .u8 0))(hsize:i.size=1)(hby:i.bytes=1)
  (v:Value) (n:Nat) (xs:List Value) (hown:w.ownsRow base e 1 v n xs) (s:ByteArray) (h63:n+s.size<=maxLen) (hbytes:n+s.size<=140737488355328) (hbase:base<=w.heap.size):
  ∃v' w',(Builtin.append_ #[t,u] ty #[v,.string s]).run P w= .ok v' w'/\w'.ownsRow base e 1 v' (n+s.size) (xs++strCells s)/\Below base w w'/\
   (∀k,k<w.heap.size->v.ownBlock≠some k->w'.heap[k]? =w.heap[k]?)/\(∀g,v.ownBlock=some g-> ∀o,o<xs.length->w'.cell? ⟨g,o,none⟩=w.cell? ⟨g,o,none⟩)/\
   (v'.ownBlock=v.ownBlock\/ ∃b,v'.ownBlock=some b/\w.heap.size<=b):=by
 have hsmall:n+s.size<=9223372036854775807:=by simp only[maxLen]at h63;omega
 have hxl:xs.length=n:=by simpa using hown.1
 have hlen:(xs++strCells s).length=(n+s.size)*1:=by rw[List.length_append,hxl,strCells_length,Nat.mul_one]
 have grown: ∀(old:Nat),
   (w.drew.alloc (.cells (xs.toArray++(strCells s).toArray++Builtin.zeroCells (Value.int .u8 0).cells (grownCap w (n+s.size) old e-(n+s.size))) e)).ownsRow base e 1
    (.slice (some ⟨w.heap.size,0,none⟩) (n+s.size) (grownCap w (n+s.size) old e)) (n+s.size) (xs++strCells s):=by
  intro old
  have hge:=grownCap_ge w (n+s.size) old e
  have hcm:grownCap w (n+s.size) old e<=maxLen:=grownCap_le_maxLen w (n+s.size) old e h63
  refine⟨hlen,.inr ⟨w.heap.size,_,_,rfl,hbase,heap_alloc_new w.drew _,hge,hcm,?_,?_⟩⟩
  ·have hz1:(Value.int IntKind.u8 0).cells.size=1:=rfl
   simp only[Array.size_append,List.size_toArray,size_zeroCells,hz1,hxl,strCells_length]
   omega
  ·simp only[Array.toList_append,List.append_assoc]
   rw[<-List.append_assoc,<-hlen]
   exact List.take_left
 have newB: ∀o:Obj,Below base w (w.drew.alloc o)/\(∀k,k<w.heap.size->(w.drew.alloc o).heap[k]? =w.heap[k]?):=λ o=>
  ⟨((Below.refl base w).drew).alloc hbase o,λ k hk=>Below.heap_alloc w.drew o k hk⟩
 rcases hown.2 with⟨rfl,rfl⟩|⟨g,cap,cur,rfl,hbg,hg,hnc,hcm,hcs,JT⟩
 ·have hx:xs=[]:=List.eq_nil_of_length_eq_zero hxl
  subst hx
  by_cases hm:s.size=0
  ·have hn:strCells s=[]:=List.eq_nil_of_length_eq_zero (by rw[strCells_length];exact hm)
   refine⟨.slice none 0 0,w,?_,by rw[hm,hn];exact World.ownsRow_nil w base e 1,Below.refl _ _,λ _ _ _=>rfl,λ _ _ _ _=>rfl,.inl U⟩
   have hf:=run_firstCells_string (P:=P) w 1 s
   rw[hm]at hf
   simp[Builtin.append_,run_underlying ht,run_underlying hu,sizeOf,typeInfo,hi,hsize,Builtin.lenOf,hm,hf]
  ·have hr:=run_append_nil_string (P:=P) w t u ty e i (.int .u8 0) ht hu hi hz s (by omega) (by omega) (by rw[hby];omega)
   have hgr:=grown 0
   simp only[Nat.zero_add,List.nil_append,Array.empty_append]at hgr ⊢
   have e1:(s.data.map λ b=>Value.int .u8 b.toNat)=(strCells s).toArray:=by
    apply Array.ext'
    simp[strCells]
   rw[e1]at hr
   exact⟨_,_,hr,hgr,(newB _).1,λ k hk _=>(newB _).2 k hk,λ g hg=>(by cases hg),.inr ⟨_,rfl,Nat.le_refl _⟩⟩
 ·by_cases hroom:n+s.size<=cap
  ·have hcs':cur.size=cap:=by simpa using hcs
   have hr:=run_append_room_string (P:=P) w t u ty e i ht hu hi hsize g n cap cur hg s hroom (by omega)
   refine⟨_,_,hr,⟨hlen,.inr ⟨g,cap,_,rfl,hbg,NL w g _ cur e _ hg,hroom,hcm,?_,?_⟩⟩,SI _ hbg,λ k _ hk=>M7 w g k _ (λ e=>hk (by simp[Value.ownBlock,e])),λ g' hg' o ho=>?_,.inl U⟩
   ·simp only[List.size_toArray,List.length_append,List.length_take,List.length_drop,Array.length_toList,strCells_length]
    omega
   ·have ht':cur.toList.take n=xs:=by simpa using JT
    rw[ht',<-hlen]
    exact List.take_left
   ·simp only[Value.ownBlock,Option.some.injEq]at hg';subst hg'
    simp only[World.cell?,NL w g _ cur e _ hg,hg]
    have hlo:o<n:=by rw[<-hxl];exact ho
    have hoc:o<cur.size:=by omega
    rw[List.append_assoc]
    simp only[List.getElem?_toArray]
    rw[List.getElem?_append_left (by simp;omega),List.getElem?_take]
    simp[hlo,hoc]
  ·have holds: ∀j u,xs[j]? =some u->w.cell? ((⟨g,0,none⟩:Addr).add j)=some u:=hown.cells (g:=g) U
   have hr:=run_append_grow_string (P:=P) w t u ty e i (.int .u8 0) ht hu hi hz ⟨g,0,none⟩ n cap xs (by rw[hsize];simpa using hxl) holds s (by omega) (by omega) (by rw[hby];exact growslice_fits (by omega) (by omega))
   refine⟨_,_,hr,grown cap,(newB _).1,λ k hk _=>(newB _).2 k hk,λ g' hg' o _=>?_,.inr ⟨_,rfl,Nat.le_refl _⟩⟩
   have hlt:g'<w.heap.size:=(World.ownsRow.lt hown g' hg').2
   simp only[World.cell?,(newB _).2 g' hlt]
def ints(s:A1):List Int:=s.map (λ b=>(b.toNat:Int))
theorem NU(a b:A1):ints (a++b)=ints a++ints b:=List.map_append
theorem GV(s:A1):len (ints s)=len s:=by unfold ints len;simp
theorem o5(s:A1):strCells ⟨⟨s⟩⟩=(ints s).flatMap AU:=by
 rw[SW];unfold strCells ints;rw[List.map_map];rfl
def NV:Value->Bool| .nilIface=>true|_=>false
theorem PV.SZ {P:Program}{C:World->Prop}{L:Env}{W:Bool}{d:Option Tmp}{ty:TypeId}{ps:String}{af:Array Edge}{gd:Option (Nat×Bool)}{t t':TypeId}{x:Operand}{v:Value}(hx:A5 L W x v)(hv:v= .nilIface\/ ∃u p,v= .iface u p)(ht:P.underlying t=some (.interface (P.methodsAt t))):
  PV P C L W ⟨d,.binOp .neq t x (.const .nilIface) t',ty,ps,af,gd⟩ (.bool (!NV v)):=
 .bin hx .c λ _ w _=>by
  rcases hv with rfl|⟨u,p,rfl⟩
  ·have:=run_neq_nil_nil (P:=P) w t ht
   simp[go_sem,this,NV]
  ·have:=run_neq_held_nil (P:=P) w t u p ht
   simp[go_sem,this,NV]
theorem CW.bT {P:Program}{Q:Exit->Act->World->Prop}{N:Nat}{L:Env}{w:World}{c:Code}(n:Nat)(h:CW P c (Exit.then (Code.rounds P c Q n) Q) N L w):CW P (.loop c) Q N L w:=λ a hs=>wp_loop_rounds (n+1) (h a hs)
theorem CW.round {P:Program}{Q:Exit->Act->World->Prop}{N:Nat}{L L':Env}{w:World}{c:Code}{n:Nat}(ks:List Nat)(hk:Eng.BL ks L=L')(h:CW P c (Exit.then (Code.rounds P c Q n) Q) N L' w): ∀a,AF a N L->Code.rounds P c Q (n+1) a w:=λ a hs=>h a (hk▸hs.BL ks)
theorem RL.insert {P:Program}{ops:Array Oper}{Q:Exit->Act->World->Prop}{N:Nat}{rest:List Oper}{L:Env}{w0 w:World}{M0 M:Mem}{Hs:List HO}{ty:TypeId}{ps:String}{af:Array Edge}{t kt e:TypeId}{k:IntKind}{m x y:Operand}{i b c c':Nat}{l l':List KV}{n:Int}{v:Value}{Hs':List HO}(hS:St w0 M0 w M Hs)(hi:Hs[i]? =some (.raw b (AI k l c)))(hm:A5 L true m (.map (some b)))(hx:A5 L true x (.int k n))(hy:A5 L true y v)
 (ht:P.underlying t=some (.map kt e)) (hk:P.underlying kt=some (.int k)) (hl:EM l c n v=l') (hc:GB l c n v=c') (hHs:Hs.set i (.raw b (AI k l' c'))=Hs')
 (h: ∀w',St w0 M0 w' M Hs'->RL P ops Q N rest L w'):RL P ops Q N (⟨none,.insert t m x y,ty,ps,af,none⟩::rest) L w:=RL.mapUpdate true hS hi hm hx hy ht hk hl hc hHs h
theorem RL.bU {P:Program}{ops:Array Oper}{Q:Exit->Act->World->Prop}{N:Nat}{rest:List Oper}{L:Env}{w0 w:World}{M0 M:Mem}{Hs:List HO}{ty:TypeId}{ps:String}{af:Array Edge}{t kt e:TypeId}{k:IntKind}{m x y:Operand}{i b c c':Nat}{l l':List KV}{n:Int}{v:Value}{Hs':List HO}(hS:St w0 M0 w M Hs)(hi:Hs[i]? =some (.raw b (AI k l c)))(hm:A5 L true m (.map (some b)))(hx:A5 L true x (.int k n))(hy:A5 L true y v)
 (ht:P.underlying t=some (.map kt e)) (hk:P.underlying kt=some (.int k)) (hl:EM l c n v=l') (hc:GB l c n v=c') (hHs:Hs.set i (.raw b (AI k l' c'))=Hs')
 (h: ∀w',St w0 M0 w' M Hs'->RL P ops Q N rest L w'):RL P ops Q N (⟨none,.mapUpdate t m x y,ty,ps,af,none⟩::rest) L w:=RL.mapUpdate false hS hi hm hx hy ht hk hl hc hHs h
theorem PV.o6 {P:Program}{C:World->Prop}{L:Env}{W:Bool}{d:Option Tmp}{ty:TypeId}{ps:String}{af:Array Edge}{gd:Option (Nat×Bool)}{w0 w:World}{M0 M:Mem}{Hs:List HO}{k:IntKind}{x:Operand}{i j b r c since:Nat}{seen:Array Nat}{l:List KV}{p:KV}{u:Value}(hS:St w0 M0 w M Hs)(hC: ∀w',C w'->Ext w w')(hi:Hs[i]? =some (.raw b (AI k l c)))(hj:Hs[j]? =some (.raw r (.mapIter (some b) since (seen.push p.born) c)))(hx:A5 L W x (.pointer (some ⟨r,0,none⟩)))
 (hp:p∈l) (hn:(l.map (·.born)).Nodup) (hu:p.val=u):PV P C L W ⟨d,.entry x,ty,ps,af,gd⟩ (.tuple #[.int k p.key,u]):=hu▸PV.entry hS hC hi hj hx hp hn
section rl
variable {P:Program} {ops:Array Oper} {Q:Exit->Act->World->Prop} {N:Nat} {rest:List Oper} {L:Env} {w0 w:World} {M0 M:Mem} {Hs:List HO} {d:Nat} {ty:TypeId} {ps:String} {af:Array Edge}
theorem RL.W8 {t t':TypeId}{x y:Operand}{i b o sz n:Nat}{cs cs' us:List Value}{v:Value}(hS:St w0 M0 w M Hs)(hv:Sl M sz n v us)(hi:Hs[i]? =some (.box b cs t'))(hx:A5 L true x (.pointer (some ⟨b,o,none⟩)))(hy:A5 L true y v)(hs: ∀w,(sizeOf t).run P w= .ok 1 w)
  (hfit:Nat.ble (o+1) cs.length=true) (hcs:F4 cs o [v]=cs') {Hs':List HO} (hHs:Hs.set i (.box b cs' t')=Hs')
  (h: ∀w',St w0 M0 w' M Hs'->RL P ops Q N rest L w'):RL P ops Q N (⟨none,.store t x y,ty,ps,af,none⟩::rest) L w:=by
 obtain⟨p,cap,rfl,_⟩:=hv.val
 exact RL.VW hS hi hx hy hs U hfit U hcs hHs h
theorem RL.o7 {l:List Int}{s:A1}{t u e:TypeId}{x y:Operand}{i:TypeInfo}{k:Nat}{v:Value}(hS:St w0 M0 w M Hs)(hk:Hs[k]? =some (.own e 1 v l.length (l.flatMap AU)))(hx:A5 L true x v)(hy:A5 L true y (str s))
  (ht:P.underlying t=some (.slice e)) (hu:P.underlying u=some .string) (hi:P.info? e=some i) (hz:i.zero=some (.int .u8 0)) (hsize:i.size=1) (hby:i.bytes=1)
  (hb:len l+len s<=140737488355328) (hd:Nat.blt d N=true) {Hs':Value->List HO} (hHs: ∀v',Hs.set k (.own e 1 v' (l++ints s).length ((l++ints s).flatMap AU))=Hs' v')
  (h: ∀v' w' M',St w0 M0 w' M' (Hs' v')->M.le M'->RL P ops Q N rest ((d,true,v')::L) w'):RL P ops Q N (⟨some d,.call ⟨.builtin .append,#[x,y],#[t,u]⟩,ty,ps,af,none⟩::rest) L w:=by
 intro a hsl
 refine wpList_plain U λ K hK=>?_
 obtain⟨hown,_⟩:=hS.obj hk
 have hsz:(ByteArray.mk ⟨s⟩).size=s.length:=rfl
 obtain⟨v',w',hr,h1,h2,h3,h4,h5⟩:=o4 (P:=P) w w0.heap.size t u ty e i ht hu hi hz hsize hby v l.length _ hown ⟨⟨s⟩⟩ (by rw[hsz];unfold len at hb;simp only[maxLen];omega) (by rw[hsz];unfold len at hb;omega) hS.size
 obtain⟨M',hS',hle⟩:=hS.bC hk h1 h2 h3 h4 h5
 have key:(execOp a.eval ⟨some d,.call ⟨.builtin .append,#[x,y],#[t,u]⟩,ty,ps,af,none⟩).run P w= .ok (.value v') w':=by
  have hr':(Builtin.append_ #[t,u] ty #[v,str s]).run P w= .ok v' w':=hr
  simp only[execOp,resolve,invoke,builtin,Sem.run_bind,Sem.run_pure,Result.andThen_ok,List.map_toArray,List.map_cons,List.map_nil,hx a N hsl U,hy a N hsl U,hr']
 simp only[Oper.wp,key,Oper.upon_value]
 refine hK _ _ (h _ _ M' ?_ hle _ (hsl.put hd true _))
 rw[<-hHs v',List.length_append,List.flatMap_append,<-o5]
 have hl2:(ints s).length=(ByteArray.mk ⟨s⟩).size:=by rw[hsz];unfold ints;simp
 rw[hl2];exact hS'
end rl
end Go.Eng
namespace Go.Eng
open Go.RowKit
def Sub(E LL:Env):Prop:= ∀t x,look E t=some x->look LL t=some x
theorem Sub.nil {LL:Env}:Sub [] LL:=λ _ _ h=>by cases h
theorem Sub.refl {LL:Env}:Sub LL LL:=λ _ _ h=>h
theorem Sub.cons {E LL:Env}{t:Nat}{g:Bool}{v:Value}(h:look LL t=some (g,v))(k:Sub E LL):Sub ((t,g,v)::E) LL:=by
 intro t' x hx
 by_cases e:t=t'
 ·subst e;rw[JH]at hx;rw[h,hx]
 ·rw[HZ e]at hx;exact k t' x hx
theorem o8{N:Nat}{E LL:Env}{R:Act->Prop}(h:Sub E LL)(k: ∀a,AF a N E->R a): ∀a,AF a N LL->R a:=
 λ a hs=>k a ⟨hs.size,hs.CD,λ t g v ht=>hs.val t g v (h t (g,v) ht)⟩
structure Fact where
 holds:Mem->Bool->Value->Prop
 mono: ∀ {M M':Mem} {g:Bool} {v:Value},M.le M'->holds M g v->holds M' g v
def Fact.is (W:Bool)(x:Value):Fact:=⟨λ _ g v=>g=W/\v=x,λ _ h=>h⟩
def Fact.sl (sz n:Nat)(cs:List Value):Fact:=⟨λ M g v=>g=true/\Sl M sz n v cs,λ h k=>⟨k.1,k.2.mono h⟩⟩
def Fact.any:Fact:=⟨λ _ _ _=>True,λ _ h=>h⟩
def W9(Fs:List Fact)(k:Nat):Fact:=(Fs[k]?).getD .any
def BM(o:Oper):List Nat:=(o.after.toList.filter (λ e=>Region.binds .any e)).map (·.on)
def BX(l:List Oper)(j:Nat):Option Tmp:=(l[j]?).bind (·.dst)
def PT(L:Env):List Nat:=L.map (·.1)
def NW(l:List Oper)(ks:List Nat):Bool:=
 (List.range l.length).all (λ i=>((l[i]?).map (λ o=>(BM o).all (λ j=>Nat.blt j i))).getD false)&&
 (List.range l.length).all (λ i=>(List.range l.length).all (λ j=>Nat.beq i j||(match BX l i,BX l j with|some a,some b=> !(Nat.beq a b)|_,_=>true)))&&
 (List.range l.length).all (λ i=>(match BX l i with|some a=>ks.all (λ t=> !(Nat.beq t a))|none=>true))
abbrev L7(Fs:List Fact)(l:List Oper)(LL:Env)(M1:Mem)(j:Nat):Prop:=
 match BX l j with
 |some d=> ∃g v,look LL d=some (g,v)/\(W9 Fs j).holds M1 g v
 |none=>True
abbrev JN(Fs:List Fact)(k:Nat)(o:Oper)(LL LL':Env)(M2:Mem):Prop:=
 match o.dst with
 |some d=> ∃g v,LL'=(d,g,v)::LL/\(W9 Fs k).holds M2 g v
 |none=>LL'=LL
def IP(f:Nat->Oper->Prop):Nat->List Oper->Prop
 |_,[]=>True
 |k,o::r=>f k o/\IP f (k+1) r
theorem IP.nil {f:Nat->Oper->Prop}{k:Nat}:IP f k []:=trivial
theorem IP.cons {f:Nat->Oper->Prop}{k:Nat}{o:Oper}{r:List Oper}(h:f k o)(h2:IP f (k+1) r):IP f k (o::r):=⟨h,h2⟩
theorem IP.get {f:Nat->Oper->Prop}: ∀ {r:List Oper} {k i:Nat} {o:Oper},IP f k r->r[i]? =some o->f (k+i) o
 |[],_,_,_,_,h=>by simp at h
 |x::r,k,0,o,h,hi=>by simp at hi;subst hi;exact h.1
 |x::r,k,i+1,o,h,hi=>by
  have:=IP.get h.2 (show r[i]? =some o by simpa using hi)
  rw[show k+(i+1)=k+1+i from by omega];exact this
theorem bV{P:Program}{ops:Array Oper}{Q:Exit->Act->World->Prop}{a:Act}{w:World}{i:Nat}{o:Oper}(ho:ops[i]? =some o){K K':Act->World->Prop}(h:wpList P ops (Qn K Q) [o] a w)(hk: ∀a w,K a w->K' a w):wpOp P ops Q i K' a w:=by
 unfold wpOp
 rw[ho]
 unfold wpList at h
 dsimp only
 split
 ·rename_i hw
  rw[if_pos hw]at h
  rcases h with h|⟨h1,h2⟩
  ·exact .inl (Oper.wp_mono (λ a w hh=>hk a w hh) (bS _ h))
  ·exact .inr ⟨h1,h2⟩
 ·rename_i hw
  rw[if_neg hw]at h
  exact hk _ _ h
end Go.Eng
