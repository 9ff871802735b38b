/-
  Parts Pure EngG EngH EngI EngJ, put together and made short by wip/py/merge.py (mini.py).
-/
import Derived.Test.YtmjpjbmeamnfpaaGreatDoorZd2
import Derived.Maps.RangeRun
import Derived.Orders
import Derived.Lib.AppendStr
import Derived.LoopN
import Derived.WideLaws
import Derived.Test.YtmjpjbmeamnfpaaGreatDoorZd0
set_option linter.unusedVariables false
set_option linter.unusedSimpArgs false
namespace Go.Eng
structure Nd where
 kind:Int
 many:Int
 name:A1
 s:A1
 neg:Bool
 e:Int
 deriving DecidableEq,Inhabited
structure Tk where
 kind:Int
 s:A1
 c:Nd
 pos:Int
 deriving DecidableEq,Inhabited
def Nd.cells (n:Nd):List Value:=[i64 n.kind,i64 n.many,str n.name,str n.s,.bool n.neg,i64 n.e]
def Tk.cells (t:Tk):List Value:=[i64 t.kind,str t.s,i64 t.c.kind,i64 t.c.many,str t.c.name,str t.c.s,.bool t.c.neg,i64 t.c.e,i64 t.pos]
abbrev LB(n:Nd):Value:=.agg #[i64 n.kind,i64 n.many,str n.name,str n.s,.bool n.neg,i64 n.e]
abbrev YT(t:Tk):Value:=.agg #[i64 t.kind,str t.s,i64 t.c.kind,i64 t.c.many,str t.c.name,str t.c.s,.bool t.c.neg,i64 t.c.e,i64 t.pos]
abbrev KB(n:Nd)(r:List Value):List Value:=i64 n.kind::i64 n.many::str n.name::str n.s:: .bool n.neg::i64 n.e::r
abbrev kC(t:Tk)(r:List Value):List Value:=i64 t.kind::str t.s::i64 t.c.kind::i64 t.c.many::str t.c.name::str t.c.s:: .bool t.c.neg::i64 t.c.e::i64 t.pos::r
theorem Nd.C1 (n:Nd):(Nd.cells n).length=6:=rfl
theorem Tk.C1 (t:Tk):(Tk.cells t).length=9:=rfl
theorem Nd.cells_one (n:Nd): ∀u∈Nd.cells n,u.oneCell'=true:=by intro u hu;simp[Nd.cells]at hu;rcases hu with rfl|rfl|rfl|rfl|rfl|rfl<;>rfl
theorem Tk.cells_one (t:Tk): ∀u∈Tk.cells t,u.oneCell'=true:=by intro u hu;simp[Tk.cells]at hu;rcases hu with rfl|rfl|rfl|rfl|rfl|rfl|rfl|rfl|rfl<;>rfl
def B2:Nd:=⟨0,0,[],[],false,0⟩
def AS(s:A1):List Value:=[str s]
theorem DC(s:A1):(AS s).length=1:=rfl
theorem YU(s:A1): ∀u∈AS s,u.oneCell'=true:=by intro u hu;simp[AS]at hu;subst hu;rfl
theorem kD{s:A1}{i:Int}(h0:0<=i)(h1:i<len s): ∃h:i.toNat<s.length,A2 s i=((s[i.toNat].toNat:Nat):Int):=by
 have h:i.toNat<s.length:=by unfold len at h1;omega
 exact⟨h,by simp[A2,h]⟩
def GD(c:Int):Bool:=decide (97<=c)&&decide (c<=122)||decide (65<=c)&&decide (c<=90)||c==95
def C9(c:Int):Bool:=decide (48<=c)&&decide (c<=57)
def TY(c:Int):Bool:=c==32||c==9||c==10||c==13
theorem YV{s:A1}{i:Int}(h0:0<=i)(h1:i<len s): ∃h:i.toNat<(ByteArray.mk ⟨s⟩).size,(((ByteArray.mk ⟨s⟩)[i.toNat]'h).toNat:Int)=A2 s i:=by
 have h:i.toNat<s.length:=by unfold len at h1;omega
 exact⟨h,by simp[A2,h];rfl⟩
theorem YW{s:A1}{i:Int}(h0:0<=i)(h1:i<len s)(h2:A2 s i<128):AM s i=A2 s i/\runeLen s i=1:=by
 obtain⟨h,e⟩:=YV h0 h1
 have:=decode_ascii ⟨⟨s⟩⟩ i.toNat h (by omega)
 unfold AM runeLen;rw[this];exact⟨e,rfl⟩
theorem kE{s:A1}{i:Int}(h0:0<=i)(h1:i<len s)(h2:128<=A2 s i):128<=AM s i/\1<=runeLen s i:=by
 obtain⟨h,e⟩:=YV h0 h1
 have:=decode_high ⟨⟨s⟩⟩ i.toNat h (by omega)
 unfold AM runeLen;omega
def BN(r:Int)(first:Bool):Bool:=GD r||(!first&&C9 r)
theorem TZ{r:Int}{f:Bool}(h:128<=r):BN r f=false:=by
 have e1:GD r=false:=by
  unfold GD;simp only[Bool.or_eq_false_iff,Bool.and_eq_false_iff,decide_eq_false_iff_not,beq_eq_false_iff_ne];omega
 have e2:C9 r=false:=by
  unfold C9;simp only[Bool.and_eq_false_iff,decide_eq_false_iff_not];omega
 simp[BN,e1,e2]
theorem YX{s:A1}{i:Int}{f:Bool}(h0:0<=i)(h1:i<len s):BN (AM s i) f=BN (A2 s i) f/\(BN (A2 s i) f=true->runeLen s i=1):=by
 rcases Int.lt_or_le (A2 s i) 128 with h|h
 ·obtain⟨e1,e2⟩:=YW h0 h1 h;rw[e1];exact⟨rfl,λ _=>e2⟩
 ·obtain⟨e1,e2⟩:=kE h0 h1 h
  rw[TZ h,TZ e1];exact⟨rfl,λ h=>by cases h⟩
def CG(s:A1)(i:Int):Int:=
 if h:0<=i/\i<len s then if BN (A2 s i) (i==0)then CG s (i+1)else i else i
termination_by (len s-i).toNat
decreasing_by omega
theorem OD{s:A1}{i:Int}(h0:0<=i)(h1:i<len s)(h2:BN (A2 s i) (i==0)=true):CG s (i+1)=CG s i:=by
 conv=>rhs;rw[CG]
 rw[dif_pos ⟨h0,h1⟩,if_pos h2]
theorem MQ{s:A1}{i:Int}(h0:0<=i)(h1:i<len s)(h2:BN (A2 s i) (i==0)=false):CG s i=i:=by
 rw[CG,dif_pos ⟨h0,h1⟩,h2];rfl
theorem MR{s:A1}{i:Int}(h1: ¬i<len s):CG s i=i:=by
 rw[CG,dif_neg (by omega)]
def B9(s:A1):A1:=Eng.sub s 0 (CG s 0)
def cont(s:A1)(i:Int):Bool:=decide (i<len s)&&decide (128<=A2 s i)&&decide (A2 s i<192)
def rune(s:A1)(i:Int):Int:=
 let c:=A2 s i
 if c<128 then 1
 else if decide (194<=c)&&decide (c<224)&&cont s (i+1)then 2
 else if decide (224<=c)&&decide (c<240)&&cont s (i+1)&&cont s (i+2)then
  if c==224&&decide (A2 s (i+1)<160)||c==237&&decide (160<=A2 s (i+1))then 0 else 3
 else if decide (240<=c)&&decide (c<245)&&cont s (i+1)&&cont s (i+2)&&cont s (i+3)then
  if c==240&&decide (A2 s (i+1)<144)||c==244&&decide (144<=A2 s (i+1))then 0 else 4
 else 0
def GF(s:A1)(i:Int):Bool:=
 if h:0<=i/\i<len s then
  if h2:0<rune s i then GF s (i+rune s i)else false
 else true
termination_by (len s-i).toNat
decreasing_by omega
def F2(s:A1):Bool:=GF s 0
theorem U0(s:A1)(i:Int):0<=rune s i/\rune s i<=4:=by
 unfold rune;dsimp only;repeat' split
 all_goals omega
theorem U1{s:A1}{i:Int}(h:cont s i=true):i<len s:=by
 unfold cont at h;simp only[Bool.and_eq_true,decide_eq_true_eq]at h;exact h.1.1
theorem rune_le(s:A1)(i:Int)(h1:i<len s):i+rune s i<=len s:=by
 have c1:cont s (i+1)=true->i+1<len s:=U1
 have c2:cont s (i+2)=true->i+2<len s:=U1
 have c3:cont s (i+3)=true->i+3<len s:=U1
 unfold rune;dsimp only;repeat' split
 all_goals first|omega|(simp_all;done)|(simp_all;omega)
theorem MS(s:A1)(i:Int)(h0:0<=i)(h1:i<len s)(h2:0<rune s i):GF s (i+rune s i)=GF s i:=by
 conv=>rhs;rw[GF]
 rw[dif_pos ⟨h0,h1⟩,dif_pos h2]
theorem YY(s:A1)(i:Int)(h0:0<=i)(h1:i<len s)(h2:rune s i=0):GF s i=false:=by
 rw[GF,dif_pos ⟨h0,h1⟩,dif_neg (by omega)]
theorem U2(s:A1)(i:Int)(h1: ¬i<len s):GF s i=true:=by
 rw[GF,dif_neg (by omega)]
def IY(s:A1)(i:Int):Bool:=
 if h:0<=i/\i<len s then
  if GD (A2 s i)||i != 0&&C9 (A2 s i)then IY s (i+1)else false
 else s != []
termination_by (len s-i).toNat
decreasing_by omega
def MT(s:A1):Bool:=IY s 0
theorem kF(s:A1)(i:Int)(h0:0<=i)(h1:i<len s)(h2:(GD (A2 s i)||i != 0&&C9 (A2 s i))=true):IY s (i+1)=IY s i:=by
 conv=>rhs;rw[IY]
 rw[dif_pos ⟨h0,h1⟩,if_pos h2]
theorem kG(s:A1)(i:Int)(h0:0<=i)(h1:i<len s)(h2: ¬(GD (A2 s i)||i != 0&&C9 (A2 s i))=true):IY s i=false:=by
 rw[IY,dif_pos ⟨h0,h1⟩,if_neg h2]
theorem kH(s:A1)(i:Int)(h1: ¬i<len s):IY s i=(s != []):=by
 rw[IY,dif_neg (by omega)]
def IZ(s:A1)(i:Int):Bool:=
 if h:0<=i/\i<len s then
  if C9 (A2 s i)then IZ s (i+1)else false
 else true
termination_by (len s-i).toNat
decreasing_by omega
def H0(s:A1):Bool:=IZ s 0
theorem kI(s:A1)(i:Int)(h0:0<=i)(h1:i<len s)(h2:C9 (A2 s i)=true):IZ s (i+1)=IZ s i:=by
 conv=>rhs;rw[IZ]
 rw[dif_pos ⟨h0,h1⟩,if_pos h2]
theorem kJ(s:A1)(i:Int)(h0:0<=i)(h1:i<len s)(h2: ¬C9 (A2 s i)=true):IZ s i=false:=by
 rw[IZ,dif_pos ⟨h0,h1⟩,if_neg h2]
theorem YZ(s:A1)(i:Int)(h1: ¬i<len s):IZ s i=true:=by
 rw[IZ,dif_neg (by omega)]
def KC(n:Nd):Bool:=
 if n.kind != 3||n.many != 0|| !(n.name==[])|| !(H0 n.s)||decide (100<len n.s)||decide (n.e< -1000)||decide (1000<n.e)||decide (1000<len n.s+n.e)then false
 else if n.s==[]then !n.neg&&n.e==0
 else A2 n.s 0 != 48&&A2 n.s (len n.s-1) != 48
theorem sub_succ{α:Type}[Inhabited α](a:List α)(k:Int)(h0:0<=k)(h1:k<len a):Eng.sub a 0 (k+1)=Eng.sub a 0 k++[a.getD k.toNat default]:=by
 have hk:k.toNat<a.length:=by unfold len at h1;omega
 unfold Eng.sub
 rw[show(k+1).toNat=k.toNat+1 from by omega]
 simp only[Int.toNat_zero,List.drop_zero,Nat.sub_zero]
 rw[List.take_succ_eq_append_getElem hk]
 simp[hk]
theorem KD{α:Type}(a:List α)(k:Int)(h:len a<=k):Eng.sub a 0 k=a:=by
 unfold Eng.sub;unfold len at h
 simp only[Int.toNat_zero,List.drop_zero,Nat.sub_zero]
 exact List.take_of_length_le (by omega)
def AB:List A1:=[[61,61],[33,61],[60,61],[62,61],[46],[124],[44],[58],[40],[41],[91],[93],[123],[125],[60],[62],[63]]
def Z0(s:A1):Bool:=AB.contains s
def FT(t:Tk):Bool:=
 if t.kind==1 then Z0 t.s&&decide (t.c=B2)
 else if t.kind==2 then MT t.s&&decide (t.c=B2)
 else if t.kind==3||t.kind==4 then F2 t.s&&decide (t.c=B2)
 else if t.kind==5 then t.s==[]&&KC t.c
 else false
theorem QX{α:Type}[Inhabited α]{l:List α}{k:Int}(h0:0<=k)(h1:k<len l):l.getD k.toNat default∈l:=by
 have hk:k.toNat<l.length:=by unfold len at h1;omega
 simp[hk]
end Go.Eng
namespace Go.Eng
open Go.RowKit
theorem wrap_u8{x:Int}(h:0<=x/\x<=255):IntKind.u8.wrap x=x:=by
 simp only[IntKind.wrap,IntKind.bits,IntKind.signed];simp;omega
theorem wrap_i32{x:Int}(h: -2147483648<=x/\x<=2147483647):IntKind.i32.wrap x=x:=by
 simp only[IntKind.wrap,IntKind.bits,IntKind.signed];simp;omega
theorem wrap_u32{x:Int}(h:0<=x/\x<=4294967295):IntKind.u32.wrap x=x:=by
 simp only[IntKind.wrap,IntKind.bits,IntKind.signed];simp;omega
theorem wrap_u64{x:Int}(h:0<=x/\x<=18446744073709551615):IntKind.u64.wrap x=x:=by
 simp only[IntKind.wrap,IntKind.bits,IntKind.signed];simp;omega
section pv
variable {P:Program} {C:World->Prop} {L:Env} {W:Bool} {d:Option Tmp} {ty:TypeId} {ps:String} {af:Array Edge} {gd:Option (Nat×Bool)}
theorem PV.kK {t t':TypeId}{x y:Operand}{a b:Bool}(ht:P.underlying t=some .bool)(hx:A4 L W x (.bool a))(hy:A4 L W y (.bool b)):PV P C L W ⟨d,.binOp .eql t x y t',ty,ps,af,gd⟩ (.bool (a==b)):=
 .bin hx hy λ _ w _=>by
  have:(Op.equalIn Op.maxDepth t (.bool a) (.bool b)).run P w= .ok (a==b) w:=by rw[TV];exact TW ht w 9999 a b
  simp[go_sem,binOp,Op.equal,this]
theorem PV.kL {t t':TypeId}{x y:Operand}{a b:Bool}(ht:P.underlying t=some .bool)(hx:A4 L W x (.bool a))(hy:A4 L W y (.bool b)):PV P C L W ⟨d,.binOp .neq t x y t',ty,ps,af,gd⟩ (.bool (a != b)):=
 .bin hx hy λ _ w _=>by
  have:(Op.equalIn Op.maxDepth t (.bool a) (.bool b)).run P w= .ok (a==b) w:=by rw[TV];exact TW ht w 9999 a b
  simp[go_sem,binOp,Op.equal,this,bne]
end pv
def AP(x:Int):List Value:=[.int .u8 x]
theorem U3(x:Int):(AP x).length=1:=rfl
theorem JK(x:Int): ∀u∈AP x,u.oneCell'=true:=by intro u hu;simp[AP]at hu;subst hu;rfl
def toStr(l:List Int):A1:=l.map (λ x=>UInt8.ofNat x.toNat)
theorem foldl_push(l:List Int): ∀r:ByteArray,l.foldl (λ r n=>r.push (UInt8.ofNat n.toNat)) r=⟨r.data++(toStr l).toArray⟩:=by
 induction l with
 |nil=>intro r;simp[toStr]
 |cons a l ih=>intro r;rw[List.foldl_cons,ih];simp[toStr,ByteArray.push]
theorem QY(l:List Int):l.flatMap AP=l.map (Value.int .u8):=by
 induction l with
 |nil=>rfl
 |cons a l ih=>rw[List.flatMap_cons,ih];rfl
structure KV where
 key:Int
 val:Value
 born:Nat
def KV.BZ (k:IntKind)(p:KV):MapEntry:= { key:=.int k p.key,val:=p.val,born:=p.born}
def AD(k:IntKind)(l:List KV)(clock:Nat):Obj:=.map ⟨l.map (KV.BZ k)⟩ clock
def B5:List KV->Int->Option Value
 |[],_=>none
 |p::l,x=>if x==p.key then some p.val else B5 l x
def FU:List KV->Int->Value->Option (List KV)
 |[],_,_=>none
 |p::l,x,v=>if x==p.key then some (⟨x,v,p.born⟩::l)else(FU l x v).map (p:: ·)
def E8(l:List KV)(c:Nat)(x:Int)(v:Value):List KV:=match FU l x v with|some l'=>l'|none=>l++[⟨x,v,c⟩]
def FV(l:List KV)(c:Nat)(x:Int)(v:Value):Nat:=match FU l x v with|some _=>c|none=>c+1
def FW:List KV->Int->List KV
 |[],_=>[]
 |p::l,x=>if x==p.key then l else p::FW l x
def F3:List KV->Int->Nat->Option (Nat×Value)
 |[],_,_=>none
 |p::l,x,i=>if x==p.key then some (i,p.val)else F3 l x (i+1)
theorem Z1(k:IntKind)(x:Int): ∀(l:List KV) (i:Nat),Instr.findNow (.int k) (.int k x) (l.map (KV.BZ k)) i=some (F3 l x i)
 |[],_=>rfl
 |p::l,i=>by
  simp only[List.map_cons,Instr.findNow,KV.BZ,Instr.sameNow,if_true,F3]
  by_cases h:(x==p.key)=true
  ·rw[h];rfl
  ·rw[Bool.not_eq_true]at h;rw[h];exact Z1 k x l (i+1)
theorem Z2(x:Int): ∀(l:List KV) (i:Nat),(F3 l x i).map (·.2)=B5 l x
 |[],_=>rfl
 |p::l,i=>by
  simp only[F3,B5];split
  ·rfl
  ·exact Z2 x l (i+1)
theorem Z3(k:IntKind)(x:Int)(v:Value): ∀(l:List KV) (i:Nat),(F3 l x i=none/\FU l x v=none)\/ ∃j u p l',F3 l x i=some (i+j,u)/\l[j]? =some p/\x=p.key/\FU l x v=some l'/\l'=l.modify j (λ p=>⟨x,v,p.born⟩)
 |[],_=>.inl ⟨rfl,rfl⟩
 |p::l,i=>by
  by_cases h:(x==p.key)=true
  ·refine .inr ⟨0,p.val,p,⟨x,v,p.born⟩::l,?_,rfl,by simpa using h,?_,by simp⟩
   ·simp only[F3,h,if_true];rfl
   ·simp only[FU,h,if_true]
  ·rcases Z3 k x v l (i+1)with⟨h1,h2⟩|⟨j,u,q,l',h1,h2,h3,h4,h5⟩
   ·refine .inl ⟨?_,?_⟩
    ·simp only[F3,h];exact h1
    ·simp only[FU,h,h2];rfl
   ·refine .inr ⟨j+1,u,q,p::l',?_,by simpa using h2,h3,?_,?_⟩
    ·simp only[F3,h];rw[show i+(j+1)=i+1+j from by omega];exact h1
    ·simp only[FU,h,h4];rfl
    ·subst h5;simp
theorem Z4(x:Int): ∀(l:List KV) (i:Nat),(F3 l x i=none/\FW l x=l)\/ ∃j u,F3 l x i=some (i+j,u)/\j<l.length/\FW l x=l.eraseIdx j
 |[],_=>.inl ⟨rfl,rfl⟩
 |p::l,i=>by
  by_cases h:(x==p.key)=true
  ·exact .inr ⟨0,p.val,by simp only[F3,h,if_true];rfl,by simp,by simp only[FW,h,if_true];rfl⟩
  ·rcases Z4 x l (i+1)with⟨h1,h2⟩|⟨j,u,h1,h2,h3⟩
   ·exact .inl ⟨by simp only[F3,h];exact h1,by simp only[FW,h,h2];rfl⟩
   ·refine .inr ⟨j+1,u,?_,by simp;omega,?_⟩
    ·simp only[F3,h];rw[show i+(j+1)=i+1+j from by omega];exact h1
    ·simp only[FW,h,h3];simp
theorem run_checkKey{P:Program}{t:TypeId}{k:IntKind}(h:P.underlying t=some (.int k))(b:Bool)(x:Int)(w:World):(Instr.checkKey b 10000 t (.int k x)).run P w= .ok () w:=by
 show(Instr.checkKey b (9999+1) t (.int k x)).run P w= .ok () w
 unfold Instr.checkKey
 rw[Sem.run_bind,run_underlying h];rfl
theorem run_findKey{P:Program}{t:TypeId}{k:IntKind}(h:P.underlying t=some (.int k))(x:Int)(l:List KV)(w:World):(Instr.findKey t (.int k x) (l.map (KV.BZ k))).run P w= .ok (F3 l x 0) w:=by
 simp only[Instr.findKey,Sem.run_bind,run_underlying h,Result.andThen_ok,Z1];rfl
theorem U4{P:Program}{w:World}{b:Nat}{k:IntKind}{l:List KV}{c:Nat}(h:w.heap[b]? =some (AD k l c)):(getObj b).run P w= .ok (AD k l c) w:=by
 simp[getObj,Sem.run,h,AD]
theorem QZ{P:Program}{w:World}{b:Nat}{k:IntKind}{l:List KV}{c:Nat}(h:w.heap[b]? =some (AD k l c))(o':Obj):(setObj b o').run P w= .ok () (E7 w b o'):=by
 simp[setObj,Sem.run,h,E7,AD]
theorem U5{α β:Type}(g:α->β)(f:α->α)(f':β->β)(h: ∀x,f' (g x)=g (f x)): ∀(l:List α) (j:Nat),(l.map g).modify j f'=(l.modify j f).map g
 |[],j=>by simp
 |a::l,0=>by simp[h]
 |a::l,j+1=>by simp[U5 g f f' h l j]
theorem Z5{P:Program}{w:World}{b:Nat}{k:IntKind}{l:List KV}{c:Nat}{t kt e:TypeId}{z:Value}{x:Int}{ok:Bool}(ht:P.underlying t=some (.map kt e))(hk:P.underlying kt=some (.int k))(hz: ∀w,(zeroValue e).run P w= .ok z w)
  (h:w.heap[b]? =some (AD k l c)):(Instr.lookup t (.map (some b)) (.int k x) ok).run P w= .ok (if ok then .tuple #[(B5 l x).getD z,.bool (B5 l x).isSome]else(B5 l x).getD z) w:=by
 simp only[Instr.lookup,Sem.run_bind,run_underlying ht,Result.andThen_ok,U4 h,AD,Sem.run_pure,run_checkKey hk,run_findKey hk]
 have hg:=Z2 x l 0
 cases hf:F3 l x 0 with
 |none=>rw[hf]at hg;rw[<-hg];simp[Sem.run_bind,hz]
 |some q=>rw[hf]at hg;rw[<-hg];simp
theorem kM{P:Program}{w:World}(k:IntKind)(x:Int):(Instr.keyThatStays (.int k x) (.int k x)).run P w= .ok (.int k x) w:=by
 simp[Instr.keyThatStays,Instr.sameBits]
theorem kN{P:Program}{w:World}{b:Nat}{k:IntKind}{l:List KV}{c:Nat}{t kt e:TypeId}{x:Int}{v:Value}(ht:P.underlying t=some (.map kt e))(hk:P.underlying kt=some (.int k))
  (h:w.heap[b]? =some (AD k l c)):(Instr.mapUpdate t (.map (some b)) (.int k x) v).run P w= .ok () (E7 w b (AD k (E8 l c x v) (FV l c x v))):=by
 simp only[Instr.mapUpdate,Sem.run_bind,run_underlying ht,Result.andThen_ok,U4 h,AD,run_checkKey hk,run_findKey hk]
 rcases Z3 k x v l 0 with⟨h1,h2⟩|⟨j,u,p,l',h1,h2,h3,h4,h5⟩
 ·rw[h1]
  simp only[E8,FV,h2]
  rw[QZ h];simp[KV.BZ]
 ·rw[h1]
  have e1:((l.map (KV.BZ k)).toArray[0+j]?)=some (KV.BZ k p):=by simp[h2]
  have e2:(Array.mk (l.map (KV.BZ k)))[0+j]? =some (KV.BZ k p):=e1
  simp only[Sem.run_bind,e2,Option.map_some,Option.getD_some]
  rw[show(KV.BZ k p).key= .int k x from by rw[h3];rfl,kM]
  simp only[Result.andThen_ok,E8,FV,h4]
  rw[QZ h]
  congr 3
  subst h5
  rw[Nat.zero_add]
  apply Array.ext'
  rw[Array.toList_modify]
  exact U5 (KV.BZ k) _ _ (λ x=>rfl) l j
theorem Z6{α β:Type}(g:α->β): ∀(l:List α) (j:Nat),(l.map g).eraseIdx j=(l.eraseIdx j).map g
 |[],_=>by simp
 |a::l,0=>by simp
 |a::l,j+1=>by simp[Z6 g l j]
theorem kO{P:Program}{w:World}{b:Nat}{k:IntKind}{l:List KV}{c:Nat}{t kt e u ty:TypeId}{x:Int}(ht:P.underlying t=some (.map kt e))(hk:P.underlying kt=some (.int k))
  (h:w.heap[b]? =some (AD k l c)):(Builtin.delete_ #[t,u] ty #[.map (some b),.int k x]).run P w= .ok (.tuple #[]) (E7 w b (AD k (FW l x) c)):=by
 unfold Builtin.delete_
 rw[show(#[t,u][0]?)=some t from rfl,show(#[Value.map (some b),Value.int k x][0]?)=some (Value.map (some b))from rfl,show(#[Value.map (some b),Value.int k x][1]?)=some (Value.int k x)from rfl]
 simp only[Sem.run_bind,run_underlying ht,Result.andThen_ok,U4 h]
 simp only[AD,Sem.run_bind,run_checkKey hk,Result.andThen_ok,run_findKey hk]
 rcases Z4 x l 0 with⟨h1,h2⟩|⟨j,v,h1,h2,h3⟩
 ·rw[h1,h2]
  simp only[Sem.run_bind]
  rw[QZ h];rfl
 ·rw[h1,h3]
  simp only[Sem.run_bind]
  rw[QZ h]
  simp only[Result.andThen_ok,Sem.run_pure]
  congr 3
  rw[Nat.zero_add]
  apply Array.ext'
  rw[Array.eraseIdxIfInBounds_eq]
  simp[h2]
  exact Z6 _ l j
section rl
variable {P:Program} {ops:Array Oper} {Q:Exit->Act->World->Prop} {N:Nat} {rest:List Oper} {L:Env} {w0 w:World} {M0 M:Mem} {Hs:List HO} {d:Nat} {ty:TypeId} {ps:String} {af:Array Edge}
theorem RL.split {op:Op}{gd:Option (Nat×Bool)}{W:Bool}(hw:C5 ops L gd W)(hd:Nat.blt d N=true)
  (h1:W=true->RL P ops Q N (⟨some d,op,ty,ps,af,none⟩::rest) L w) (h2:W=false->RL P ops Q N rest ((d,false,.bool false)::L) w):RL P ops Q N (⟨some d,op,ty,ps,af,gd⟩::rest) L w:=by
 intro a hs
 have hwt:=C5.wanted (o:=⟨some d,op,ty,ps,af,gd⟩) hw hs
 cases W with
 |true=>
  have:=h1 U a hs
  unfold wpList at this ⊢
  rw[hwt,if_pos U]
  rw[show Region.wanted ⟨some d,op,ty,ps,af,none⟩ (yielded ops a.tmps)=true from rfl,if_pos U]at this
  exact this
 |false=>
  unfold wpList
  rw[hwt]
  exact h2 U _ (hs.put hd false (.bool false))
theorem RL.makeMap (k:IntKind){t:TypeId}(hS:St w0 M0 w M Hs)(hd:Nat.blt d N=true)
  (h: ∀w' b,St w0 M0 w' M (.raw b (AD k [] 0)::Hs)->RL P ops Q N rest ((d,true,.map (some b))::L) w'):RL P ops Q N (⟨some d,.makeMap t none,ty,ps,af,none⟩::rest) L w:=by
 intro a hs
 refine wpList_plain U λ K hK=>?_
 have key:(execOp a.eval ⟨some d,.makeMap t none,ty,ps,af,none⟩).run P w= .ok (.value (.map (some w.heap.size))) (w.alloc (.map #[] 0)):=rfl
 simp only[Oper.wp,key,Oper.upon_value]
 exact hK _ _ (h _ _ (hS.LA (AD k [] 0)) _ (hs.put hd true _))
theorem RL.mapUpdate {t kt e:TypeId}{k:IntKind}{m x y:Operand}{i b c c':Nat}{l l':List KV}{n:Int}{v:Value}{Hs':List HO}(ins:Bool)(hS:St w0 M0 w M Hs)(hi:Hs[i]? =some (.raw b (AD k l c)))(hm:A4 L true m (.map (some b)))(hx:A4 L true x (.int k n))(hy:A4 L true y v)
  (ht:P.underlying t=some (.map kt e)) (hk:P.underlying kt=some (.int k)) (hl:E8 l c n v=l') (hc:FV l c n v=c') (hHs:Hs.set i (.raw b (AD k l' c'))=Hs')
  (h: ∀w',St w0 M0 w' M Hs'->RL P ops Q N rest L w'):RL P ops Q N (⟨none,if ins then .insert t m x y else .mapUpdate t m x y,ty,ps,af,none⟩::rest) L w:=by
 intro a hs
 refine wpList_plain U λ K hK=>?_
 have hb:=(hS.obj hi).2.1
 have key:(execOp a.eval ⟨none,if ins then .insert t m x y else .mapUpdate t m x y,ty,ps,af,none⟩).run P w= .ok .skip (E7 w b (AD k l' c')):=by
  have:=kN (P:=P) (x:=n) (v:=v) ht hk hb
  cases ins<;>simp only[execOp,hm a N hs rfl,hx a N hs rfl,hy a N hs rfl,Bool.false_eq_true,if_true,if_false]<;>rw[Sem.run_bind,this,hl,hc]<;>rfl
 simp only[Oper.wp,key,Oper.upon_skip]
 exact hK _ _ (h _ (hHs▸hS.MN hi _) _ hs)
theorem RL.delete {t u kt e:TypeId}{k:IntKind}{m x:Operand}{i b c:Nat}{l l':List KV}{n:Int}{Hs':List HO}(hS:St w0 M0 w M Hs)(hi:Hs[i]? =some (.raw b (AD k l c)))(hm:A4 L true m (.map (some b)))(hx:A4 L true x (.int k n))
  (ht:P.underlying t=some (.map kt e)) (hk:P.underlying kt=some (.int k)) (hl:FW l n=l') (hHs:Hs.set i (.raw b (AD k l' c))=Hs')
  (h: ∀w',St w0 M0 w' M Hs'->RL P ops Q N rest L w'):RL P ops Q N (⟨none,.call ⟨.builtin .delete,#[m,x],#[t,u]⟩,ty,ps,af,none⟩::rest) L w:=by
 intro a hs
 refine wpList_plain U λ K hK=>?_
 have hb:=(hS.obj hi).2.1
 have key:(execOp a.eval ⟨none,.call ⟨.builtin .delete,#[m,x],#[t,u]⟩,ty,ps,af,none⟩).run P w= .ok (.value (.tuple #[])) (E7 w b (AD k l' c)):=by
  have:=kO (P:=P) (x:=n) (u:=u) (ty:=ty) ht hk hb
  simp only[execOp,resolve,invoke,builtin,List.map_toArray,List.map_cons,List.map_nil,hm a N hs U,hx a N hs U,Sem.run_bind,Sem.run_pure,Result.andThen_ok,this,hl]
 simp only[Oper.wp,key,Oper.upon_value]
 exact hK _ _ (h _ (hHs▸hS.MN hi _) _ hs)
theorem RL.kP {t kt e:TypeId}{k:IntKind}{x:Operand}{i b c:Nat}{l:List KV}(hS:St w0 M0 w M Hs)(hi:Hs[i]? =some (.raw b (AD k l c)))(hx:A4 L true x (.map (some b)))(ht:P.underlying t=some (.map kt e))(hd:Nat.blt d N=true)
  (h: ∀w' r,St w0 M0 w' M (.raw r (.mapIter (some b) c #[] c)::Hs)->RL P ops Q N rest ((d,true,.pointer (some ⟨r,0,none⟩))::L) w'):RL P ops Q N (⟨some d,.range t x,ty,ps,af,none⟩::rest) L w:=by
 intro a hs
 refine wpList_plain U λ K hK=>?_
 have hb:=(hS.obj hi).2.1
 have key:(execOp a.eval ⟨some d,.range t x,ty,ps,af,none⟩).run P w= .ok (.value (.pointer (some ⟨w.heap.size,0,none⟩))) (w.alloc (.mapIter (some b) c #[] c)):=by
  simp only[execOp,hx a N hs U];rw[Sem.run_bind,run_range_map w t kt e b _ _ ht hb];rfl
 simp only[Oper.wp,key,Oper.upon_value]
 exact hK _ _ (h _ _ (hS.LA _) _ (hs.put hd true _))
theorem RL.kQ {k:IntKind}{x:Operand}{i j b r c since c0:Nat}{seen:Array Nat}{l:List KV}(hS:St w0 M0 w M Hs)(hi:Hs[i]? =some (.raw b (AD k l c)))(hj:Hs[j]? =some (.raw r (.mapIter (some b) since seen c0)))(hx:A4 L true x (.pointer (some ⟨r,0,none⟩)))
  (hold: ∀p∈l,p.born<since) (hsc:since<=c0) (hd:Nat.blt d N=true)
  (h1: ∀p∈l,¬seen.contains p.born=true-> ∀w',St w0 M0 w' M (Hs.set j (.raw r (.mapIter (some b) since (seen.push p.born) c)))->RL P ops Q N rest ((d,true,.tuple #[.bool true,.int k p.key,p.val])::L) w')
  (h2:(∀p∈l,seen.contains p.born=true)->RL P ops Q N rest ((d,true,.tuple #[.bool false])::L) w):RL P ops Q N (⟨some d,.next x false,ty,ps,af,none⟩::rest) L w:=by
 intro a hs
 refine wpList_plain U λ K hK=>?_
 have hb:=(hS.obj hi).2.1
 have hr:=(hS.obj hj).2.1
 rcases run_next_at (P:=P) w ty r b since c0 seen ⟨l.map (KV.BZ k)⟩ c hr hb (by intro x hx;simp only[List.mem_map]at hx;obtain⟨p,hp,rfl⟩:=hx;exact hold p hp) hsc with⟨he,hrun⟩|⟨en,hen,w1,hw1,hrun⟩
 ·have key:(execOp a.eval ⟨some d,.next x false,ty,ps,af,none⟩).run P w= .ok (.value (.tuple #[.bool false])) w:=by
   simp only[execOp,hx a N hs U];rw[Sem.run_bind,hrun];rfl
  simp only[Oper.wp,key,Oper.upon_value]
  refine hK _ _ (h2 ?_ _ (hs.put hd true _))
  intro p hp
  by_cases hc:seen.contains p.born=true
  ·exact hc
  ·exfalso
   have:(leftOf ⟨l.map (KV.BZ k)⟩ seen).size=0:=he
   unfold leftOf at this
   rw[Array.size_eq_zero_iff,Array.filter_eq_empty_iff]at this
   have:=this (KV.BZ k p) (by simp only[List.mem_toArray,Array.mem_def,List.mem_map];exact⟨p,hp,rfl⟩)
   apply this;show(!seen.contains p.born)=true
   simpa using hc
 ·unfold leftOf at hen
  simp only[Array.toList_filter,List.mem_filter,List.mem_map,Bool.not_eq_true']at hen
  obtain⟨⟨p,hp,rfl⟩,hns⟩:=hen
  have key:(execOp a.eval ⟨some d,.next x false,ty,ps,af,none⟩).run P w= .ok (.value (.tuple #[.bool true,.int k p.key,p.val])) (E7 w1 r (.mapIter (some b) since (seen.push p.born) c)):=by
   simp only[execOp,hx a N hs U];rw[Sem.run_bind,hrun];rfl
  simp only[Oper.wp,key,Oper.upon_value]
  have hS1:St w0 M0 w1 M Hs:=by rcases hw1 with rfl|rfl;exact hS;exact hS.ext (Ext.drew _)
  exact hK _ _ (h1 p hp (by show ¬seen.contains p.born=true;have:seen.contains p.born=false:=hns;rw[this];simp) _ (hS1.MN hj _) _ (hs.put hd true _))
end rl
section pv
variable {P:Program} {C:World->Prop} {L:Env} {W:Bool} {d:Option Tmp} {ty:TypeId} {ps:String} {af:Array Edge} {gd:Option (Nat×Bool)} {w0 w:World} {M0 M:Mem} {Hs:List HO}
theorem PV.entry {k:IntKind}{x:Operand}{i j b r c since:Nat}{seen:Array Nat}{l:List KV}{p:KV}(hS:St w0 M0 w M Hs)(hC: ∀w',C w'->Ext w w')(hi:Hs[i]? =some (.raw b (AD k l c)))(hj:Hs[j]? =some (.raw r (.mapIter (some b) since (seen.push p.born) c)))(hx:A4 L W x (.pointer (some ⟨r,0,none⟩)))
  (hp:p∈l) (hn:(l.map (·.born)).Nodup):PV P C L W ⟨d,.entry x,ty,ps,af,gd⟩ (.tuple #[.int k p.key,p.val]):=by
 intro a N hs hW w' hw'
 have hS':=hS.ext (hC w' hw')
 have hb:=(hS'.obj hi).2.1
 have hr:=(hS'.obj hj).2.1
 have:=run_entry_at (P:=P) w' r b since seen ⟨l.map (KV.BZ k)⟩ c (KV.BZ k p) hr hb (List.mem_map.2 ⟨p,hp,rfl⟩) (by simpa[List.map_map,Function.comp_def,KV.BZ]using hn)
 simp only[execOp,hx a N hs hW];rw[Sem.run_bind,this];rfl
theorem PV.lookup {k:IntKind}{t kt e:TypeId}{x y:Operand}{i b c:Nat}{l:List KV}{n:Int}{z v:Value}(hS:St w0 M0 w M Hs)(hC: ∀w',C w'->Ext w w')(hi:Hs[i]? =some (.raw b (AD k l c)))(hx:A4 L W x (.map (some b)))(hy:A4 L W y (.int k n))
  (ht:P.underlying t=some (.map kt e)) (hk:P.underlying kt=some (.int k)) (hz: ∀w,(zeroValue e).run P w= .ok z w) (hv:(B5 l n).getD z=v):PV P C L W ⟨d,.lookup t x y false,ty,ps,af,gd⟩ v:=by
 intro a N hs hW w' hw'
 have hb:=((hS.ext (hC w' hw')).obj hi).2.1
 have:=Z5 (P:=P) (x:=n) (ok:=false) ht hk hz hb
 simp only[execOp,hx a N hs hW,hy a N hs hW];rw[Sem.run_bind,this,<-hv];rfl
theorem PV.R0 {k:IntKind}{t kt e:TypeId}{x y:Operand}{i b c:Nat}{l:List KV}{n:Int}{z v:Value}{q:Bool}(hS:St w0 M0 w M Hs)(hC: ∀w',C w'->Ext w w')(hi:Hs[i]? =some (.raw b (AD k l c)))(hx:A4 L W x (.map (some b)))(hy:A4 L W y (.int k n))
  (ht:P.underlying t=some (.map kt e)) (hk:P.underlying kt=some (.int k)) (hz: ∀w,(zeroValue e).run P w= .ok z w) (hv:(B5 l n).getD z=v) (hq:(B5 l n).isSome=q):PV P C L W ⟨d,.lookup t x y true,ty,ps,af,gd⟩ (.tuple #[v,.bool q]):=by
 intro a N hs hW w' hw'
 have hb:=((hS.ext (hC w' hw')).obj hi).2.1
 have:=Z5 (P:=P) (x:=n) (ok:=true) ht hk hz hb
 simp only[execOp,hx a N hs hW,hy a N hs hW];rw[Sem.run_bind,this,<-hv,<-hq];rfl
end pv
end Go.Eng
namespace Go.Eng
open Go.RowKit
section ra
variable {P:Program} {md:Region.Mode} {ops:Array Oper} {Q:Exit->Act->World->Prop} {N f:Nat} {listed:Array Bool} {L:Env} {w:World}
def Qn(K:Act->World->Prop)(Q:Exit->Act->World->Prop):Exit->Act->World->Prop
 | .normal,a,w=>K a w
 |e,a,w=>Q e a w
def RA(P:Program)(md:Region.Mode)(ops:Array Oper)(Q:Exit->Act->World->Prop)(N f:Nat)(listed:Array Bool)(L:Env)(w:World):Prop:= ∀a,A9 a N L->wpAny P md ops Q f listed a w
theorem Z7{o:Oper}{a:Act}{K K':Act->World->Prop}: ∀r:Result Next,o.upon P a K' (Qn K Q) r->o.upon P a K' Q r:=by
 intro r h
 cases r with
 |ok n w'=>
  cases n with
  |enter f args=>
   refine Calls.mono h ?_
   intro e w'' he
   cases e<;>exact he
  |_=>exact h
 |halt x w'=>cases x<;>exact h
theorem RA.of {is:List Nat}(hr:Region.ready md ops listed=is)(hne:is.isEmpty=false)(h: ∀i∈is,RL P ops (Qn (λ a' w'=>wpAny P md ops Q f (listed.setIfInBounds i true) a' w') Q) N (ops[i]?).toList L w):RA P md ops Q N (f+1) listed L w:=by
 intro a hs
 refine⟨λ h0=>?_,λ i hi=>?_⟩
 ·rw[hr]at h0;subst h0;cases hne
 ·rw[hr]at hi
  have h1:=h i hi a hs
  unfold wpOp
  cases ho:ops[i]? with
  |none=>rw[ho]at h1;exact h1
  |some o=>
   rw[ho]at h1
   simp only[Option.toList_some]at h1
   unfold wpList at h1
   dsimp only
   split
   ·rename_i hw
    rw[if_pos hw]at h1
    rcases h1 with h1|⟨h1,h2⟩
    ·exact .inl (Z7 _ h1)
    ·exact .inr ⟨h1,h2⟩
   ·rename_i hw
    rw[if_neg hw]at h1;exact h1
theorem RA.next {K:Act->World->Prop}(h: ∀a,A9 a N L->K a w): ∀a,A9 a N L->(Qn K Q) .normal a w:=h
theorem RA.nil (hr:Region.ready md ops listed=[])(h: ∀a,A9 a N L->Q .normal a w):RA P md ops Q N 0 listed L w:=λ a hs=>⟨hr,h a hs⟩
theorem RA.one {i:Nat}(hr:Region.ready md ops listed=[i])(h:RL P ops (Qn (λ a' w'=>wpAny P md ops Q f (listed.setIfInBounds i true) a' w') Q) N (ops[i]?).toList L w):RA P md ops Q N (f+1) listed L w:=
 RA.of hr U (by simpa using h)
theorem RA.two {i j:Nat}(hr:Region.ready md ops listed=[i,j])(h1:RL P ops (Qn (λ a' w'=>wpAny P md ops Q f (listed.setIfInBounds i true) a' w') Q) N (ops[i]?).toList L w)
  (h2:RL P ops (Qn (λ a' w'=>wpAny P md ops Q f (listed.setIfInBounds j true) a' w') Q) N (ops[j]?).toList L w):RA P md ops Q N (f+1) listed L w:=
 RA.of hr U (by simpa using⟨h1,h2⟩)
theorem CW.kR {w0:World}{M0 M:Mem}{Hs:List HO}{id:Nat}{l:List Oper}(hS:St w0 M0 w M Hs)(hm:P.follows .mixedOrders=true)
  (h: ∀w1,St w0 M0 w1 M Hs->RA P .any l.toArray Q N l.length (Array.replicate l.length false) L w1):CW P (.region id l.toArray true) Q N L w:=by
 intro a hs
 refine wp_region_any hm ?_
 have:=h _ (hS.ext (Ext.drew w)) a hs
 simpa using this
end ra
end Go.Eng
namespace Go.Eng
open Go.RowKit Go.Lib
theorem kS{P:Program}(w:World)(base:Nat)(t u ty e:TypeId)(i:TypeInfo)(ht:P.underlying t=some (.slice e))(hu:P.underlying u=some .string)(hi:P.info? e=some i)(hz:i.zero=some (.int .u8 0))(hsize:i.size=1)(hby:i.bytes=1)
  (v:Value) (n:Nat) (xs:List Value) (hown:w.ownsRow base e 1 v n xs) (s:ByteArray) (h63:n+s.size<=maxLen) (hbytes:n+s.size<=140737488355328) (hbase:base<=w.heap.size):
  ∃v' w',(Builtin.append_ #[t,u] ty #[v,.string s]).run P w= .ok v' w'/\w'.ownsRow base e 1 v' (n+s.size) (xs++strCells s)/\Below base w w'/\
   (∀k,k<w.heap.size->v.ownBlock≠some k->w'.heap[k]? =w.heap[k]?)/\(∀g,v.ownBlock=some g-> ∀o,o<xs.length->w'.cell? ⟨g,o,none⟩=w.cell? ⟨g,o,none⟩)/\
   (v'.ownBlock=v.ownBlock\/ ∃b,v'.ownBlock=some b/\w.heap.size<=b):=by
 have hsmall:n+s.size<=9223372036854775807:=by simp only[maxLen]at h63;omega
 have hxl:xs.length=n:=by simpa using hown.1
 have hlen:(xs++strCells s).length=(n+s.size)*1:=by rw[List.length_append,hxl,strCells_length,Nat.mul_one]
 have grown: ∀(old:Nat),
   (w.drew.alloc (.cells (xs.toArray++(strCells s).toArray++Builtin.zeroCells (Value.int .u8 0).cells (grownCap w (n+s.size) old e-(n+s.size))) e)).ownsRow base e 1
    (.slice (some ⟨w.heap.size,0,none⟩) (n+s.size) (grownCap w (n+s.size) old e)) (n+s.size) (xs++strCells s):=by
  intro old
  have hge:=grownCap_ge w (n+s.size) old e
  have hcm:grownCap w (n+s.size) old e<=maxLen:=grownCap_le_maxLen w (n+s.size) old e h63
  refine⟨hlen,.inr ⟨w.heap.size,_,_,rfl,hbase,heap_alloc_new w.drew _,hge,hcm,?_,?_⟩⟩
  ·have hz1:(Value.int IntKind.u8 0).cells.size=1:=rfl
   simp only[Array.size_append,List.size_toArray,size_zeroCells,hz1,hxl,strCells_length]
   omega
  ·simp only[Array.toList_append,List.append_assoc]
   rw[<-List.append_assoc,<-hlen]
   exact List.take_left
 have newB: ∀o:Obj,Below base w (w.drew.alloc o)/\(∀k,k<w.heap.size->(w.drew.alloc o).heap[k]? =w.heap[k]?):=λ o=>
  ⟨((Below.refl base w).drew).alloc hbase o,λ k hk=>Below.heap_alloc w.drew o k hk⟩
 rcases hown.2 with⟨rfl,rfl⟩|⟨g,cap,cur,rfl,hbg,hg,hnc,hcm,hcs,J6⟩
 ·have hx:xs=[]:=List.eq_nil_of_length_eq_zero hxl
  subst hx
  by_cases hm:s.size=0
  ·have hn:strCells s=[]:=List.eq_nil_of_length_eq_zero (by rw[strCells_length];exact hm)
   refine⟨.slice none 0 0,w,?_,by rw[hm,hn];exact World.ownsRow_nil w base e 1,Below.refl _ _,λ _ _ _=>rfl,λ _ _ _ _=>rfl,.inl U⟩
   have hf:=run_firstCells_string (P:=P) w 1 s
   rw[hm]at hf
   simp[Builtin.append_,run_underlying ht,run_underlying hu,sizeOf,typeInfo,hi,hsize,Builtin.lenOf,hm,hf]
  ·have hr:=run_append_nil_string (P:=P) w t u ty e i (.int .u8 0) ht hu hi hz s (by omega) (by omega) (by rw[hby];omega)
   have hgr:=grown 0
   simp only[Nat.zero_add,List.nil_append,Array.empty_append]at hgr ⊢
   have e1:(s.data.map λ b=>Value.int .u8 b.toNat)=(strCells s).toArray:=by
    apply Array.ext'
    simp[strCells]
   rw[e1]at hr
   exact⟨_,_,hr,hgr,(newB _).1,λ k hk _=>(newB _).2 k hk,λ g hg=>(by cases hg),.inr ⟨_,rfl,Nat.le_refl _⟩⟩
 ·by_cases hroom:n+s.size<=cap
  ·have hcs':cur.size=cap:=by simpa using hcs
   have hr:=run_append_room_string (P:=P) w t u ty e i ht hu hi hsize g n cap cur hg s hroom (by omega)
   refine⟨_,_,hr,⟨hlen,.inr ⟨g,cap,_,rfl,hbg,MM w g _ cur e _ hg,hroom,hcm,?_,?_⟩⟩,QM _ hbg,λ k _ hk=>L9 w g k _ (λ e=>hk (by simp[Value.ownBlock,e])),λ g' hg' o ho=>?_,.inl U⟩
   ·simp only[List.size_toArray,List.length_append,List.length_take,List.length_drop,Array.length_toList,strCells_length]
    omega
   ·have ht':cur.toList.take n=xs:=by simpa using J6
    rw[ht',<-hlen]
    exact List.take_left
   ·simp only[Value.ownBlock,Option.some.injEq]at hg';subst hg'
    simp only[World.cell?,MM w g _ cur e _ hg,hg]
    have hlo:o<n:=by rw[<-hxl];exact ho
    have hoc:o<cur.size:=by omega
    rw[List.append_assoc]
    simp only[List.getElem?_toArray]
    rw[List.getElem?_append_left (by simp;omega),List.getElem?_take]
    simp[hlo,hoc]
  ·have holds: ∀j u,xs[j]? =some u->w.cell? ((⟨g,0,none⟩:Addr).add j)=some u:=hown.cells (g:=g) U
   have hr:=run_append_grow_string (P:=P) w t u ty e i (.int .u8 0) ht hu hi hz ⟨g,0,none⟩ n cap xs (by rw[hsize];simpa using hxl) holds s (by omega) (by omega) (by rw[hby];exact growslice_fits (by omega) (by omega))
   refine⟨_,_,hr,grown cap,(newB _).1,λ k hk _=>(newB _).2 k hk,λ g' hg' o _=>?_,.inr ⟨_,rfl,Nat.le_refl _⟩⟩
   have hlt:g'<w.heap.size:=(World.ownsRow.lt hown g' hg').2
   simp only[World.cell?,(newB _).2 g' hlt]
def ints(s:A1):List Int:=s.map (λ b=>(b.toNat:Int))
theorem MU(a b:A1):ints (a++b)=ints a++ints b:=List.map_append
theorem GG(s:A1):len (ints s)=len s:=by unfold ints len;simp
theorem kT(s:A1):strCells ⟨⟨s⟩⟩=(ints s).flatMap AP:=by
 rw[QY];unfold strCells ints;rw[List.map_map];rfl
def MV:Value->Bool| .nilIface=>true|_=>false
theorem PV.R1 {P:Program}{C:World->Prop}{L:Env}{W:Bool}{d:Option Tmp}{ty:TypeId}{ps:String}{af:Array Edge}{gd:Option (Nat×Bool)}{t t':TypeId}{x:Operand}{v:Value}(hx:A4 L W x v)(hv:v= .nilIface\/ ∃u p,v= .iface u p)(ht:P.underlying t=some (.interface (P.methodsAt t))):
  PV P C L W ⟨d,.binOp .neq t x (.const .nilIface) t',ty,ps,af,gd⟩ (.bool (!MV v)):=
 .bin hx .c λ _ w _=>by
  rcases hv with rfl|⟨u,p,rfl⟩
  ·have:=run_neq_nil_nil (P:=P) w t ht
   simp[go_sem,this,MV]
  ·have:=run_neq_held_nil (P:=P) w t u p ht
   simp[go_sem,this,MV]
theorem CW.Z8 {P:Program}{Q:Exit->Act->World->Prop}{N:Nat}{L:Env}{w:World}{c:Code}(n:Nat)(h:CW P c (Exit.then (Code.rounds P c Q n) Q) N L w):CW P (.loop c) Q N L w:=λ a hs=>wp_loop_rounds (n+1) (h a hs)
theorem CW.round {P:Program}{Q:Exit->Act->World->Prop}{N:Nat}{L L':Env}{w:World}{c:Code}{n:Nat}(ks:List Nat)(hk:Eng.BC ks L=L')(h:CW P c (Exit.then (Code.rounds P c Q n) Q) N L' w): ∀a,A9 a N L->Code.rounds P c Q (n+1) a w:=λ a hs=>h a (hk▸hs.BC ks)
theorem RL.insert {P:Program}{ops:Array Oper}{Q:Exit->Act->World->Prop}{N:Nat}{rest:List Oper}{L:Env}{w0 w:World}{M0 M:Mem}{Hs:List HO}{ty:TypeId}{ps:String}{af:Array Edge}{t kt e:TypeId}{k:IntKind}{m x y:Operand}{i b c c':Nat}{l l':List KV}{n:Int}{v:Value}{Hs':List HO}(hS:St w0 M0 w M Hs)(hi:Hs[i]? =some (.raw b (AD k l c)))(hm:A4 L true m (.map (some b)))(hx:A4 L true x (.int k n))(hy:A4 L true y v)
 (ht:P.underlying t=some (.map kt e)) (hk:P.underlying kt=some (.int k)) (hl:E8 l c n v=l') (hc:FV l c n v=c') (hHs:Hs.set i (.raw b (AD k l' c'))=Hs')
 (h: ∀w',St w0 M0 w' M Hs'->RL P ops Q N rest L w'):RL P ops Q N (⟨none,.insert t m x y,ty,ps,af,none⟩::rest) L w:=RL.mapUpdate true hS hi hm hx hy ht hk hl hc hHs h
theorem RL.Z9 {P:Program}{ops:Array Oper}{Q:Exit->Act->World->Prop}{N:Nat}{rest:List Oper}{L:Env}{w0 w:World}{M0 M:Mem}{Hs:List HO}{ty:TypeId}{ps:String}{af:Array Edge}{t kt e:TypeId}{k:IntKind}{m x y:Operand}{i b c c':Nat}{l l':List KV}{n:Int}{v:Value}{Hs':List HO}(hS:St w0 M0 w M Hs)(hi:Hs[i]? =some (.raw b (AD k l c)))(hm:A4 L true m (.map (some b)))(hx:A4 L true x (.int k n))(hy:A4 L true y v)
 (ht:P.underlying t=some (.map kt e)) (hk:P.underlying kt=some (.int k)) (hl:E8 l c n v=l') (hc:FV l c n v=c') (hHs:Hs.set i (.raw b (AD k l' c'))=Hs')
 (h: ∀w',St w0 M0 w' M Hs'->RL P ops Q N rest L w'):RL P ops Q N (⟨none,.mapUpdate t m x y,ty,ps,af,none⟩::rest) L w:=RL.mapUpdate false hS hi hm hx hy ht hk hl hc hHs h
theorem PV.kU {P:Program}{C:World->Prop}{L:Env}{W:Bool}{d:Option Tmp}{ty:TypeId}{ps:String}{af:Array Edge}{gd:Option (Nat×Bool)}{w0 w:World}{M0 M:Mem}{Hs:List HO}{k:IntKind}{x:Operand}{i j b r c since:Nat}{seen:Array Nat}{l:List KV}{p:KV}{u:Value}(hS:St w0 M0 w M Hs)(hC: ∀w',C w'->Ext w w')(hi:Hs[i]? =some (.raw b (AD k l c)))(hj:Hs[j]? =some (.raw r (.mapIter (some b) since (seen.push p.born) c)))(hx:A4 L W x (.pointer (some ⟨r,0,none⟩)))
 (hp:p∈l) (hn:(l.map (·.born)).Nodup) (hu:p.val=u):PV P C L W ⟨d,.entry x,ty,ps,af,gd⟩ (.tuple #[.int k p.key,u]):=hu▸PV.entry hS hC hi hj hx hp hn
section rl
variable {P:Program} {ops:Array Oper} {Q:Exit->Act->World->Prop} {N:Nat} {rest:List Oper} {L:Env} {w0 w:World} {M0 M:Mem} {Hs:List HO} {d:Nat} {ty:TypeId} {ps:String} {af:Array Edge}
theorem RL.U6 {t t':TypeId}{x y:Operand}{i b o sz n:Nat}{cs cs' us:List Value}{v:Value}(hS:St w0 M0 w M Hs)(hv:Sl M sz n v us)(hi:Hs[i]? =some (.box b cs t'))(hx:A4 L true x (.pointer (some ⟨b,o,none⟩)))(hy:A4 L true y v)(hs: ∀w,(sizeOf t).run P w= .ok 1 w)
  (hfit:Nat.ble (o+1) cs.length=true) (hcs:ER cs o [v]=cs') {Hs':List HO} (hHs:Hs.set i (.box b cs' t')=Hs')
  (h: ∀w',St w0 M0 w' M Hs'->RL P ops Q N rest L w'):RL P ops Q N (⟨none,.store t x y,ty,ps,af,none⟩::rest) L w:=by
 obtain⟨p,cap,rfl,_⟩:=hv.val
 exact RL.TU hS hi hx hy hs U hfit U hcs hHs h
theorem RL.kV {l:List Int}{s:A1}{t u e:TypeId}{x y:Operand}{i:TypeInfo}{k:Nat}{v:Value}(hS:St w0 M0 w M Hs)(hk:Hs[k]? =some (.own e 1 v l.length (l.flatMap AP)))(hx:A4 L true x v)(hy:A4 L true y (str s))
  (ht:P.underlying t=some (.slice e)) (hu:P.underlying u=some .string) (hi:P.info? e=some i) (hz:i.zero=some (.int .u8 0)) (hsize:i.size=1) (hby:i.bytes=1)
  (hb:len l+len s<=140737488355328) (hd:Nat.blt d N=true) {Hs':Value->List HO} (hHs: ∀v',Hs.set k (.own e 1 v' (l++ints s).length ((l++ints s).flatMap AP))=Hs' v')
  (h: ∀v' w' M',St w0 M0 w' M' (Hs' v')->M.le M'->RL P ops Q N rest ((d,true,v')::L) w'):RL P ops Q N (⟨some d,.call ⟨.builtin .append,#[x,y],#[t,u]⟩,ty,ps,af,none⟩::rest) L w:=by
 intro a hsl
 refine wpList_plain U λ K hK=>?_
 obtain⟨hown,_⟩:=hS.obj hk
 have hsz:(ByteArray.mk ⟨s⟩).size=s.length:=rfl
 obtain⟨v',w',hr,h1,h2,h3,h4,h5⟩:=kS (P:=P) w w0.heap.size t u ty e i ht hu hi hz hsize hby v l.length _ hown ⟨⟨s⟩⟩ (by rw[hsz];unfold len at hb;simp only[maxLen];omega) (by rw[hsz];unfold len at hb;omega) hS.size
 obtain⟨M',hS',hle⟩:=hS.YS hk h1 h2 h3 h4 h5
 have key:(execOp a.eval ⟨some d,.call ⟨.builtin .append,#[x,y],#[t,u]⟩,ty,ps,af,none⟩).run P w= .ok (.value v') w':=by
  have hr':(Builtin.append_ #[t,u] ty #[v,str s]).run P w= .ok v' w':=hr
  simp only[execOp,resolve,invoke,builtin,Sem.run_bind,Sem.run_pure,Result.andThen_ok,List.map_toArray,List.map_cons,List.map_nil,hx a N hsl U,hy a N hsl U,hr']
 simp only[Oper.wp,key,Oper.upon_value]
 refine hK _ _ (h _ _ M' ?_ hle _ (hsl.put hd true _))
 rw[<-hHs v',List.length_append,List.flatMap_append,<-kT]
 have hl2:(ints s).length=(ByteArray.mk ⟨s⟩).size:=by rw[hsz];unfold ints;simp
 rw[hl2];exact hS'
end rl
end Go.Eng
namespace Go.Eng
open Go.RowKit
def Sub(E LL:Env):Prop:= ∀t x,look E t=some x->look LL t=some x
theorem Sub.nil {LL:Env}:Sub [] LL:=λ _ _ h=>by cases h
theorem Sub.refl {LL:Env}:Sub LL LL:=λ _ _ h=>h
theorem Sub.cons {E LL:Env}{t:Nat}{g:Bool}{v:Value}(h:look LL t=some (g,v))(k:Sub E LL):Sub ((t,g,v)::E) LL:=by
 intro t' x hx
 by_cases e:t=t'
 ·subst e;rw[IV]at hx;rw[h,hx]
 ·rw[HE e]at hx;exact k t' x hx
theorem kW{N:Nat}{E LL:Env}{R:Act->Prop}(h:Sub E LL)(k: ∀a,A9 a N E->R a): ∀a,A9 a N LL->R a:=
 λ a hs=>k a ⟨hs.size,hs.C2,λ t g v ht=>hs.val t g v (h t (g,v) ht)⟩
structure Fact where
 holds:Mem->Bool->Value->Prop
 mono: ∀ {M M':Mem} {g:Bool} {v:Value},M.le M'->holds M g v->holds M' g v
def Fact.is (W:Bool)(x:Value):Fact:=⟨λ _ g v=>g=W/\v=x,λ _ h=>h⟩
def Fact.sl (sz n:Nat)(cs:List Value):Fact:=⟨λ M g v=>g=true/\Sl M sz n v cs,λ h k=>⟨k.1,k.2.mono h⟩⟩
def Fact.any:Fact:=⟨λ _ _ _=>True,λ _ h=>h⟩
def U7(Fs:List Fact)(k:Nat):Fact:=(Fs[k]?).getD .any
def BE(o:Oper):List Nat:=(o.after.toList.filter (λ e=>Region.binds .any e)).map (·.on)
def BP(l:List Oper)(j:Nat):Option Tmp:=(l[j]?).bind (·.dst)
def OE(L:Env):List Nat:=L.map (·.1)
def MW(l:List Oper)(ks:List Nat):Bool:=
 (List.range l.length).all (λ i=>((l[i]?).map (λ o=>(BE o).all (λ j=>Nat.blt j i))).getD false)&&
 (List.range l.length).all (λ i=>(List.range l.length).all (λ j=>Nat.beq i j||(match BP l i,BP l j with|some a,some b=> !(Nat.beq a b)|_,_=>true)))&&
 (List.range l.length).all (λ i=>(match BP l i with|some a=>ks.all (λ t=> !(Nat.beq t a))|none=>true))
abbrev KE(Fs:List Fact)(l:List Oper)(LL:Env)(M1:Mem)(j:Nat):Prop:=
 match BP l j with
 |some d=> ∃g v,look LL d=some (g,v)/\(U7 Fs j).holds M1 g v
 |none=>True
abbrev J0(Fs:List Fact)(k:Nat)(o:Oper)(LL LL':Env)(M2:Mem):Prop:=
 match o.dst with
 |some d=> ∃g v,LL'=(d,g,v)::LL/\(U7 Fs k).holds M2 g v
 |none=>LL'=LL
def I2(f:Nat->Oper->Prop):Nat->List Oper->Prop
 |_,[]=>True
 |k,o::r=>f k o/\I2 f (k+1) r
theorem I2.nil {f:Nat->Oper->Prop}{k:Nat}:I2 f k []:=trivial
theorem I2.cons {f:Nat->Oper->Prop}{k:Nat}{o:Oper}{r:List Oper}(h:f k o)(h2:I2 f (k+1) r):I2 f k (o::r):=⟨h,h2⟩
theorem I2.get {f:Nat->Oper->Prop}: ∀ {r:List Oper} {k i:Nat} {o:Oper},I2 f k r->r[i]? =some o->f (k+i) o
 |[],_,_,_,_,h=>by simp at h
 |x::r,k,0,o,h,hi=>by simp at hi;subst hi;exact h.1
 |x::r,k,i+1,o,h,hi=>by
  have:=I2.get h.2 (show r[i]? =some o by simpa using hi)
  rw[show k+(i+1)=k+1+i from by omega];exact this
theorem ZA{P:Program}{ops:Array Oper}{Q:Exit->Act->World->Prop}{a:Act}{w:World}{i:Nat}{o:Oper}(ho:ops[i]? =some o){K K':Act->World->Prop}(h:wpList P ops (Qn K Q) [o] a w)(hk: ∀a w,K a w->K' a w):wpOp P ops Q i K' a w:=by
 unfold wpOp
 rw[ho]
 unfold wpList at h
 dsimp only
 split
 ·rename_i hw
  rw[if_pos hw]at h
  rcases h with h|⟨h1,h2⟩
  ·exact .inl (Oper.wp_mono (λ a w hh=>hk a w hh) (Z7 _ h))
  ·exact .inr ⟨h1,h2⟩
 ·rename_i hw
  rw[if_neg hw]at h
  exact hk _ _ h
end Go.Eng
