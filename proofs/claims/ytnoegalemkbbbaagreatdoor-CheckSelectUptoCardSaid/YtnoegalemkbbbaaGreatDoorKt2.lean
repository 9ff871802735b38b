/- Lemmas for the card. -/
import Derived.Test.YtnoegalemkbbbaaGreatDoorKt1
import Derived.Lib.SmallJoins
set_option linter.unusedVariables false
set_option linter.unusedSimpArgs false
set_option maxRecDepth 100000
namespace Go.Eng
open Go.RowKit
theorem wrap_u8{x:Int}(h:0<=x/\x<=255):IntKind.u8.wrap x=x:=by
 simp only[IntKind.wrap,IntKind.bits,IntKind.signed];simp;omega
section pv
variable {P:Program} {C:World->Prop} {L:Env} {W:Bool} {d:Option Tmp} {ty:TypeId} {ps:String} {af:Array Edge} {gd:Option (Nat×Bool)}
theorem PV.max2 {ts:Array TypeId}{x y:Operand}{k k':IntKind}{a b:Int}(hx:AD L W x (.int k a))(i:AD L W y (.int k' b)):PV P C L W ⟨d,.call ⟨.builtin .max,#[x,y],ts⟩,ty,ps,af,gd⟩ (.int k (if b>a then b else a)):=by
 intro ac N e h w _
 have:=run_max_int2 (P:=P) (w:=w) ts ty k k' a b
 simp only[execOp,resolve,invoke,builtin,List.map_toArray,List.map_cons,List.map_nil,hx ac N e h,i ac N e h,Sem.run_bind,Sem.run_pure,Result.andThen_ok,this]
theorem PV.zU {t e:TypeId}{x y:Operand}{a b:Bool}(h:P.underlying t=some .bool)(hx:AD L W x (.bool a))(i:AD L W y (.bool b)):PV P C L W ⟨d,.binOp .eql t x y e,ty,ps,af,gd⟩ (.bool (a==b)):=
 .bin hx i λ _ w _=>by
  have:(Op.equalIn Op.maxDepth t (.bool a) (.bool b)).run P w= .ok (a==b) w:=by rw[aZ];exact bA h w 9999 a b
  simp[go_sem,binOp,Op.equal,this]
theorem PV.zV {t e:TypeId}{x y:Operand}{a b:Bool}(h:P.underlying t=some .bool)(hx:AD L W x (.bool a))(i:AD L W y (.bool b)):PV P C L W ⟨d,.binOp .neq t x y e,ty,ps,af,gd⟩ (.bool (a != b)):=
 .bin hx i λ _ w _=>by
  have:(Op.equalIn Op.maxDepth t (.bool a) (.bool b)).run P w= .ok (a==b) w:=by rw[aZ];exact bA h w 9999 a b
  simp[go_sem,binOp,Op.equal,this,bne]
end pv
def BU(x:Int):List Value:=[.int .u8 x]
theorem G8(x:Int):(BU x).length=1:=rfl
theorem RH(x:Int): ∀u∈BU x,u.oneCell'=true:=by intro u hu;simp[BU]at hu;subst hu;rfl
def toStr(l:List Int):A0:=l.map (λ x=>UInt8.ofNat x.toNat)
theorem foldl_push(l:List Int): ∀r:ByteArray,l.foldl (λ r n=>r.push (UInt8.ofNat n.toNat)) r=⟨r.data++(toStr l).toArray⟩:=by
 induction l with
 |nil=>intro r;simp[toStr]
 |cons a l b=>intro r;rw[List.foldl_cons,b];simp[toStr,ByteArray.push]
theorem TY(l:List Int):l.flatMap BU=l.map (Value.int .u8):=by
 induction l with
 |nil=>rfl
 |cons a l b=>rw[List.flatMap_cons,b];rfl
theorem zW{P:Program}{w:World}{M:Mem}(A:Sat w M){l:List Int}{v:Value}(h:Sl M 1 l.length v (l.flatMap BU)){src dst e:TypeId}(z:P.underlying src=some (.slice e))(he:P.underlying e=some (.int .u8))(hd:P.underlying dst=some .string):
  (convert src dst v).run P w= .ok (str (toStr l)) w:=by
 by_cases hl:0<l.length
 ·obtain⟨cap,n,h1,D,B⟩:=h.at hl
  have C: ∀j v',(l.map (Value.int .u8))[j]? =some v'->w.cell? ((⟨sb v,so v,none⟩:Addr).add j)=some v':=by
   intro j v' k
   rw[F6]
   refine A.cell _ _ _ ?_
   rw[<-TY]at k
   have q:j<(l.flatMap BU).length:=by
    rcases Nat.lt_or_ge j (l.flatMap BU).length with s|s
    ·exact s
    ·rw[List.getElem?_eq_none s]at k;cases k
   rw[B j q];exact k
  have i:=run_loadCells_list (P:=P) w ⟨sb v,so v,none⟩ (l.map (Value.int .u8)) C
  rw[List.length_map]at i
  generalize sb v=b at*
  generalize so v=o at*
  subst n
  rw[run_convert_bytes_string w src dst e (some ⟨b,o,none⟩) l.length cap z he hd,run_bytesToString w ⟨b,o,none⟩ l.length cap l i,foldl_push]
  simp[str]
 ·have y:l=[]:=by cases l with|nil=>rfl|cons a b=>simp at hl
  subst y
  obtain⟨p,cap,n,_⟩:=h.val
  subst n
  rw[run_convert_bytes_string w src dst e p _ cap z he hd]
  cases p<;>rfl
theorem PV.TZ {P:Program}{C:World->Prop}{L:Env}{W:Bool}{d:Option Tmp}{ty:TypeId}{ps:String}{af:Array Edge}{gd:Option (Nat×Bool)}{w0 w:World}{M0 M:Mem}{Hs:List HO}{src dst e:TypeId}{x:Operand}{l:List Int}{v:Value}
  (hS:St w0 M0 w M Hs) (hC: ∀w',C w'->Ext w w') (h:Sl M 1 l.length v (l.flatMap BU)) (hx:AD L W x v) (j:P.underlying src=some (.slice e)) (he:P.underlying e=some (.int .u8)) (hd:P.underlying dst=some .string):PV P C L W ⟨d,.convert src dst x,ty,ps,af,gd⟩ (str (toStr l)):=by
 intro a N b k w' i
 have:=zW (P:=P) (hS.ext (hC w' i)).sat h j he hd
 simp only[execOp,hx a N b k]
 rw[Sem.run_bind,this];rfl
structure KV where
 key:Int
 val:Value
 born:Nat
def KV.GZ (k:IntKind)(p:KV):MapEntry:= { key:=.int k p.key,val:=p.val,born:=p.born}
def BN(k:IntKind)(l:List KV)(clock:Nat):Obj:=.map ⟨l.map (KV.GZ k)⟩ clock
def C2:List KV->Int->Option Value
 |[],_=>none
 |p::l,x=>if x==p.key then some p.val else C2 l x
def M5:List KV->Int->Value->Option (List KV)
 |[],_,_=>none
 |p::l,x,v=>if x==p.key then some (⟨x,v,p.born⟩::l)else(M5 l x v).map (p:: ·)
def M6(l:List KV)(c:Nat)(x:Int)(v:Value):List KV:=match M5 l x v with|some l'=>l'|none=>l++[⟨x,v,c⟩]
def PM(l:List KV)(c:Nat)(x:Int)(v:Value):Nat:=match M5 l x v with|some _=>c|none=>c+1
def I7:List KV->Int->List KV
 |[],_=>[]
 |p::l,x=>if x==p.key then l else p::I7 l x
def HL:List KV->Int->Nat->Option (Nat×Value)
 |[],_,_=>none
 |p::l,x,i=>if x==p.key then some (i,p.val)else HL l x (i+1)
theorem kS(k:IntKind)(x:Int): ∀(l:List KV) (i:Nat),Instr.findNow (.int k) (.int k x) (l.map (KV.GZ k)) i=some (HL l x i)
 |[],_=>rfl
 |p::l,i=>by
  simp only[List.map_cons,Instr.findNow,KV.GZ,Instr.sameNow,if_true,HL]
  by_cases h:(x==p.key)=true
  ·rw[h];rfl
  ·rw[Bool.not_eq_true]at h;rw[h];exact kS k x l (i+1)
theorem kU(x:Int): ∀(l:List KV) (i:Nat),(HL l x i).map (·.2)=C2 l x
 |[],_=>rfl
 |p::l,i=>by
  simp only[HL,C2];split
  ·rfl
  ·exact kU x l (i+1)
theorem kV(k:IntKind)(x:Int)(v:Value): ∀(l:List KV) (i:Nat),(HL l x i=none/\M5 l x v=none)\/ ∃j u p l',HL l x i=some (i+j,u)/\l[j]? =some p/\x=p.key/\M5 l x v=some l'/\l'=l.modify j (λ p=>⟨x,v,p.born⟩)
 |[],_=>.inl ⟨rfl,rfl⟩
 |p::l,i=>by
  by_cases h:(x==p.key)=true
  ·refine .inr ⟨0,p.val,p,⟨x,v,p.born⟩::l,?_,rfl,by simpa using h,?_,by simp⟩
   ·simp only[HL,h,if_true];rfl
   ·simp only[M5,h,if_true]
  ·rcases kV k x v l (i+1)with⟨h1,b⟩|⟨j,u,q,l',h1,b,e,n,s⟩
   ·refine .inl ⟨?_,?_⟩
    ·simp only[HL,h];exact h1
    ·simp only[M5,h,b];rfl
   ·refine .inr ⟨j+1,u,q,p::l',?_,by simpa using b,e,?_,?_⟩
    ·simp only[HL,h];rw[show i+(j+1)=i+1+j from by omega];exact h1
    ·simp only[M5,h,n];rfl
    ·subst s;simp
theorem kW(x:Int): ∀(l:List KV) (i:Nat),(HL l x i=none/\I7 l x=l)\/ ∃j u,HL l x i=some (i+j,u)/\j<l.length/\I7 l x=l.eraseIdx j
 |[],_=>.inl ⟨rfl,rfl⟩
 |p::l,i=>by
  by_cases h:(x==p.key)=true
  ·exact .inr ⟨0,p.val,by simp only[HL,h,if_true];rfl,by simp,by simp only[I7,h,if_true];rfl⟩
  ·rcases kW x l (i+1)with⟨h1,b⟩|⟨j,u,h1,b,e⟩
   ·exact .inl ⟨by simp only[HL,h];exact h1,by simp only[I7,h,b];rfl⟩
   ·refine .inr ⟨j+1,u,?_,by simp;omega,?_⟩
    ·simp only[HL,h];rw[show i+(j+1)=i+1+j from by omega];exact h1
    ·simp only[I7,h,e];simp
theorem run_checkKey{P:Program}{t:TypeId}{k:IntKind}(h:P.underlying t=some (.int k))(b:Bool)(x:Int)(w:World):(Instr.checkKey b 10000 t (.int k x)).run P w= .ok () w:=by
 show(Instr.checkKey b (9999+1) t (.int k x)).run P w= .ok () w
 unfold Instr.checkKey
 rw[Sem.run_bind,run_underlying h];rfl
theorem run_findKey{P:Program}{t:TypeId}{k:IntKind}(h:P.underlying t=some (.int k))(x:Int)(l:List KV)(w:World):(Instr.findKey t (.int k x) (l.map (KV.GZ k))).run P w= .ok (HL l x 0) w:=by
 simp only[Instr.findKey,Sem.run_bind,run_underlying h,Result.andThen_ok,kS];rfl
theorem bL{P:Program}{w:World}{b:Nat}{k:IntKind}{l:List KV}{c:Nat}(h:w.heap[b]? =some (BN k l c)):(getObj b).run P w= .ok (BN k l c) w:=by
 simp[getObj,Sem.run,h,BN]
theorem WG{P:Program}{w:World}{b:Nat}{k:IntKind}{l:List KV}{c:Nat}(h:w.heap[b]? =some (BN k l c))(e:Obj):(setObj b e).run P w= .ok () (IQ w b e):=by
 simp[setObj,Sem.run,h,IQ,BN]
theorem kX{α β:Type}(g:α->β)(f:α->α)(b:β->β)(h: ∀x,b (g x)=g (f x)): ∀(l:List α) (j:Nat),(l.map g).modify j b=(l.modify j f).map g
 |[],j=>by simp
 |a::l,0=>by simp[h]
 |a::l,j+1=>by simp[kX g f b h l j]
theorem kY{P:Program}{w:World}{b:Nat}{k:IntKind}{l:List KV}{c:Nat}{t kt e:TypeId}{z:Value}{x:Int}{ok:Bool}(j:P.underlying t=some (.map kt e))(i:P.underlying kt=some (.int k))(n: ∀w,(zeroValue e).run P w= .ok z w)
  (h:w.heap[b]? =some (BN k l c)):(Instr.lookup t (.map (some b)) (.int k x) ok).run P w= .ok (if ok then .tuple #[(C2 l x).getD z,.bool (C2 l x).isSome]else(C2 l x).getD z) w:=by
 simp only[Instr.lookup,Sem.run_bind,run_underlying j,Result.andThen_ok,bL h,BN,Sem.run_pure,run_checkKey i,run_findKey i]
 have hg:=kU x l 0
 cases hf:HL l x 0 with
 |none=>rw[hf]at hg;rw[<-hg];simp[Sem.run_bind,n]
 |some q=>rw[hf]at hg;rw[<-hg];simp
theorem zX{P:Program}{w:World}(k:IntKind)(x:Int):(Instr.keyThatStays (.int k x) (.int k x)).run P w= .ok (.int k x) w:=by
 simp[Instr.keyThatStays,Instr.sameBits]
theorem zY{P:Program}{w:World}{b:Nat}{k:IntKind}{l:List KV}{c:Nat}{t kt e:TypeId}{x:Int}{v:Value}(q:P.underlying t=some (.map kt e))(n:P.underlying kt=some (.int k))
  (h:w.heap[b]? =some (BN k l c)):(Instr.mapUpdate t (.map (some b)) (.int k x) v).run P w= .ok () (IQ w b (BN k (M6 l c x v) (PM l c x v))):=by
 simp only[Instr.mapUpdate,Sem.run_bind,run_underlying q,Result.andThen_ok,bL h,BN,run_checkKey n,run_findKey n]
 rcases kV k x v l 0 with⟨h1,i⟩|⟨j,u,p,l',h1,i,s,y,z⟩
 ·rw[h1]
  simp only[M6,PM,i]
  rw[WG h];simp[KV.GZ]
 ·rw[h1]
  have A:((l.map (KV.GZ k)).toArray[0+j]?)=some (KV.GZ k p):=by simp[i]
  have e2:(Array.mk (l.map (KV.GZ k)))[0+j]? =some (KV.GZ k p):=A
  simp only[Sem.run_bind,e2,Option.map_some,Option.getD_some]
  rw[show(KV.GZ k p).key= .int k x from by rw[s];rfl,zX]
  simp only[Result.andThen_ok,M6,PM,y]
  rw[WG h]
  congr 3
  subst z
  rw[Nat.zero_add]
  apply Array.ext'
  rw[Array.toList_modify]
  exact kX (KV.GZ k) _ _ (λ x=>rfl) l j
theorem kZ{α β:Type}(g:α->β): ∀(l:List α) (j:Nat),(l.map g).eraseIdx j=(l.eraseIdx j).map g
 |[],_=>by simp
 |a::l,0=>by simp
 |a::l,j+1=>by simp[kZ g l j]
theorem zZ{P:Program}{w:World}{b:Nat}{k:IntKind}{l:List KV}{c:Nat}{t kt e u ty:TypeId}{x:Int}(q:P.underlying t=some (.map kt e))(n:P.underlying kt=some (.int k))
  (h:w.heap[b]? =some (BN k l c)):(Builtin.delete_ #[t,u] ty #[.map (some b),.int k x]).run P w= .ok (.tuple #[]) (IQ w b (BN k (I7 l x) c)):=by
 unfold Builtin.delete_
 rw[show(#[t,u][0]?)=some t from rfl,show(#[Value.map (some b),Value.int k x][0]?)=some (Value.map (some b))from rfl,show(#[Value.map (some b),Value.int k x][1]?)=some (Value.int k x)from rfl]
 simp only[Sem.run_bind,run_underlying q,Result.andThen_ok,bL h]
 simp only[BN,Sem.run_bind,run_checkKey n,Result.andThen_ok,run_findKey n]
 rcases kW x l 0 with⟨h1,i⟩|⟨j,v,h1,i,s⟩
 ·rw[h1,i]
  simp only[Sem.run_bind]
  rw[WG h];rfl
 ·rw[h1,s]
  simp only[Sem.run_bind]
  rw[WG h]
  simp only[Result.andThen_ok,Sem.run_pure]
  congr 3
  rw[Nat.zero_add]
  apply Array.ext'
  rw[Array.eraseIdxIfInBounds_eq]
  simp[i]
  exact kZ _ l j
section rl
variable {P:Program} {ops:Array Oper} {Q:Exit->Act->World->Prop} {N:Nat} {rest:List Oper} {L:Env} {w0 w:World} {M0 M:Mem} {Hs:List HO} {d:Nat} {ty:TypeId} {ps:String} {af:Array Edge}
theorem RL.makeMap (k:IntKind){t:TypeId}(hS:St w0 M0 w M Hs)(hd:Nat.blt d N=true)
  (h: ∀w' b,St w0 M0 w' M (.raw b (BN k [] 0)::Hs)->RL P ops Q N rest ((d,true,.map (some b))::L) w'):RL P ops Q N (⟨some d,.makeMap t none,ty,ps,af,none⟩::rest) L w:=by
 intro a e
 refine wpList_plain U λ K i=>?_
 have key:(execOp a.eval ⟨some d,.makeMap t none,ty,ps,af,none⟩).run P w= .ok (.value (.map (some w.heap.size))) (w.alloc (.map #[] 0)):=rfl
 simp only[Oper.wp,key,Oper.upon_value]
 exact i _ _ (h _ _ (hS.PL (BN k [] 0)) _ (e.put hd true _))
theorem RL.mapUpdate {t kt e:TypeId}{k:IntKind}{m x y:Operand}{i b c q:Nat}{l l':List KV}{n:Int}{v:Value}{Hs':List HO}(ins:Bool)(hS:St w0 M0 w M Hs)(hi:Hs[i]? =some (.raw b (BN k l c)))(hm:AD L true m (.map (some b)))(hx:AD L true x (.int k n))(z:AD L true y v)
  (A:P.underlying t=some (.map kt e)) (B:P.underlying kt=some (.int k)) (hl:M6 l c n v=l') (C:PM l c n v=q) (s:Hs.set i (.raw b (BN k l' q))=Hs')
  (h: ∀w',St w0 M0 w' M Hs'->RL P ops Q N rest L w'):RL P ops Q N (⟨none,if ins then .insert t m x y else .mapUpdate t m x y,ty,ps,af,none⟩::rest) L w:=by
 intro a j
 refine wpList_plain U λ K D=>?_
 have E:=(hS.obj hi).2.1
 have key:(execOp a.eval ⟨none,if ins then .insert t m x y else .mapUpdate t m x y,ty,ps,af,none⟩).run P w= .ok .skip (IQ w b (BN k l' q)):=by
  have:=zY (P:=P) (x:=n) (v:=v) A B E
  cases ins<;>simp only[execOp,hm a N j rfl,hx a N j rfl,z a N j rfl,Bool.false_eq_true,if_true,if_false]<;>rw[Sem.run_bind,this,hl,C]<;>rfl
 simp only[Oper.wp,key,Oper.upon_skip]
 exact D _ _ (h _ (s▸hS.WC hi _) _ j)
theorem RL.delete {t u kt e:TypeId}{k:IntKind}{m x:Operand}{i b c:Nat}{l l':List KV}{n:Int}{Hs':List HO}(hS:St w0 M0 w M Hs)(hi:Hs[i]? =some (.raw b (BN k l c)))(hm:AD L true m (.map (some b)))(hx:AD L true x (.int k n))
  (s:P.underlying t=some (.map kt e)) (y:P.underlying kt=some (.int k)) (hl:I7 l n=l') (j:Hs.set i (.raw b (BN k l' c))=Hs')
  (h: ∀w',St w0 M0 w' M Hs'->RL P ops Q N rest L w'):RL P ops Q N (⟨none,.call ⟨.builtin .delete,#[m,x],#[t,u]⟩,ty,ps,af,none⟩::rest) L w:=by
 intro a q
 refine wpList_plain U λ K z=>?_
 have A:=(hS.obj hi).2.1
 have key:(execOp a.eval ⟨none,.call ⟨.builtin .delete,#[m,x],#[t,u]⟩,ty,ps,af,none⟩).run P w= .ok (.value (.tuple #[])) (IQ w b (BN k l' c)):=by
  have:=zZ (P:=P) (x:=n) (u:=u) (ty:=ty) s y A
  simp only[execOp,resolve,invoke,builtin,List.map_toArray,List.map_cons,List.map_nil,hm a N q U,hx a N q U,Sem.run_bind,Sem.run_pure,Result.andThen_ok,this,hl]
 simp only[Oper.wp,key,Oper.upon_value]
 exact z _ _ (h _ (j▸hS.WC hi _) _ q)
theorem RL.AA0 {t kt e:TypeId}{k:IntKind}{x:Operand}{i b c:Nat}{l:List KV}(hS:St w0 M0 w M Hs)(hi:Hs[i]? =some (.raw b (BN k l c)))(hx:AD L true x (.map (some b)))(n:P.underlying t=some (.map kt e))(hd:Nat.blt d N=true)
  (h: ∀w' r,St w0 M0 w' M (.raw r (.mapIter (some b) c #[] c)::Hs)->RL P ops Q N rest ((d,true,.pointer (some ⟨r,0,none⟩))::L) w'):RL P ops Q N (⟨some d,.range t x,ty,ps,af,none⟩::rest) L w:=by
 intro a j
 refine wpList_plain U λ K q=>?_
 have s:=(hS.obj hi).2.1
 have key:(execOp a.eval ⟨some d,.range t x,ty,ps,af,none⟩).run P w= .ok (.value (.pointer (some ⟨w.heap.size,0,none⟩))) (w.alloc (.mapIter (some b) c #[] c)):=by
  simp only[execOp,hx a N j U];rw[Sem.run_bind,run_range_map w t kt e b _ _ n s];rfl
 simp only[Oper.wp,key,Oper.upon_value]
 exact q _ _ (h _ _ (hS.PL _) _ (j.put hd true _))
theorem RL.AA1 {k:IntKind}{x:Operand}{i j b r c since c0:Nat}{seen:Array Nat}{l:List KV}(hS:St w0 M0 w M Hs)(hi:Hs[i]? =some (.raw b (BN k l c)))(A:Hs[j]? =some (.raw r (.mapIter (some b) since seen c0)))(hx:AD L true x (.pointer (some ⟨r,0,none⟩)))
  (hold: ∀p∈l,p.born<since) (q:since<=c0) (hd:Nat.blt d N=true)
  (h1: ∀p∈l,¬seen.contains p.born=true-> ∀w',St w0 M0 w' M (Hs.set j (.raw r (.mapIter (some b) since (seen.push p.born) c)))->RL P ops Q N rest ((d,true,.tuple #[.bool true,.int k p.key,p.val])::L) w')
  (C:(∀p∈l,seen.contains p.born=true)->RL P ops Q N rest ((d,true,.tuple #[.bool false])::L) w):RL P ops Q N (⟨some d,.next x false,ty,ps,af,none⟩::rest) L w:=by
 intro a n
 refine wpList_plain U λ K B=>?_
 have D:=(hS.obj hi).2.1
 have E:=(hS.obj A).2.1
 rcases run_next_at (P:=P) w ty r b since c0 seen ⟨l.map (KV.GZ k)⟩ c E D (by intro x hx;simp only[List.mem_map]at hx;obtain⟨p,hp,rfl⟩:=hx;exact hold p hp) q with⟨he,e⟩|⟨en,h,w1,s,e⟩
 ·have key:(execOp a.eval ⟨some d,.next x false,ty,ps,af,none⟩).run P w= .ok (.value (.tuple #[.bool false])) w:=by
   simp only[execOp,hx a N n U];rw[Sem.run_bind,e];rfl
  simp only[Oper.wp,key,Oper.upon_value]
  refine B _ _ (C ?_ _ (n.put hd true _))
  intro p hp
  by_cases hc:seen.contains p.born=true
  ·exact hc
  ·exfalso
   have:(leftOf ⟨l.map (KV.GZ k)⟩ seen).size=0:=he
   unfold leftOf at this
   rw[Array.size_eq_zero_iff,Array.filter_eq_empty_iff]at this
   have:=this (KV.GZ k p) (by simp only[List.mem_toArray,Array.mem_def,List.mem_map];exact⟨p,hp,rfl⟩)
   apply this;show(!seen.contains p.born)=true
   simpa using hc
 ·unfold leftOf at h
  simp only[Array.toList_filter,List.mem_filter,List.mem_map,Bool.not_eq_true']at h
  obtain⟨⟨p,hp,rfl⟩,y⟩:=h
  have key:(execOp a.eval ⟨some d,.next x false,ty,ps,af,none⟩).run P w= .ok (.value (.tuple #[.bool true,.int k p.key,p.val])) (IQ w1 r (.mapIter (some b) since (seen.push p.born) c)):=by
   simp only[execOp,hx a N n U];rw[Sem.run_bind,e];rfl
  simp only[Oper.wp,key,Oper.upon_value]
  have z:St w0 M0 w1 M Hs:=by rcases s with rfl|rfl;exact hS;exact hS.ext (Ext.drew _)
  exact B _ _ (h1 p hp (by show ¬seen.contains p.born=true;have:seen.contains p.born=false:=y;rw[this];simp) _ (z.WC A _) _ (n.put hd true _))
end rl
section pv
variable {P:Program} {C:World->Prop} {L:Env} {W:Bool} {d:Option Tmp} {ty:TypeId} {ps:String} {af:Array Edge} {gd:Option (Nat×Bool)} {w0 w:World} {M0 M:Mem} {Hs:List HO}
theorem PV.entry {k:IntKind}{x:Operand}{i j b r c since:Nat}{seen:Array Nat}{l:List KV}{p:KV}(hS:St w0 M0 w M Hs)(hC: ∀w',C w'->Ext w w')(hi:Hs[i]? =some (.raw b (BN k l c)))(n:Hs[j]? =some (.raw r (.mapIter (some b) since (seen.push p.born) c)))(hx:AD L W x (.pointer (some ⟨r,0,none⟩)))
  (hp:p∈l) (q:(l.map (·.born)).Nodup):PV P C L W ⟨d,.entry x,ty,ps,af,gd⟩ (.tuple #[.int k p.key,p.val]):=by
 intro a N s y w' h
 have e:=hS.ext (hC w' h)
 have z:=(e.obj hi).2.1
 have A:=(e.obj n).2.1
 have:=run_entry_at (P:=P) w' r b since seen ⟨l.map (KV.GZ k)⟩ c (KV.GZ k p) A z (List.mem_map.2 ⟨p,hp,rfl⟩) (by simpa[List.map_map,Function.comp_def,KV.GZ]using q)
 simp only[execOp,hx a N s y];rw[Sem.run_bind,this];rfl
theorem PV.lookup {k:IntKind}{t kt e:TypeId}{x y:Operand}{i b c:Nat}{l:List KV}{n:Int}{z v:Value}(hS:St w0 M0 w M Hs)(hC: ∀w',C w'->Ext w w')(hi:Hs[i]? =some (.raw b (BN k l c)))(hx:AD L W x (.map (some b)))(s:AD L W y (.int k n))
  (A:P.underlying t=some (.map kt e)) (B:P.underlying kt=some (.int k)) (D: ∀w,(zeroValue e).run P w= .ok z w) (E:(C2 l n).getD z=v):PV P C L W ⟨d,.lookup t x y false,ty,ps,af,gd⟩ v:=by
 intro a N j q w' h
 have F:=((hS.ext (hC w' h)).obj hi).2.1
 have:=kY (P:=P) (x:=n) (ok:=false) A B D F
 simp only[execOp,hx a N j q,s a N j q];rw[Sem.run_bind,this,<-E];rfl
theorem PV.AA2 {k:IntKind}{t kt e:TypeId}{x y:Operand}{i b c:Nat}{l:List KV}{n:Int}{z v:Value}{q:Bool}(hS:St w0 M0 w M Hs)(hC: ∀w',C w'->Ext w w')(hi:Hs[i]? =some (.raw b (BN k l c)))(hx:AD L W x (.map (some b)))(A:AD L W y (.int k n))
  (B:P.underlying t=some (.map kt e)) (D:P.underlying kt=some (.int k)) (E: ∀w,(zeroValue e).run P w= .ok z w) (F:(C2 l n).getD z=v) (G:(C2 l n).isSome=q):PV P C L W ⟨d,.lookup t x y true,ty,ps,af,gd⟩ (.tuple #[v,.bool q]):=by
 intro a N j s w' h
 have H:=((hS.ext (hC w' h)).obj hi).2.1
 have:=kY (P:=P) (x:=n) (ok:=true) B D E H
 simp only[execOp,hx a N j s,A a N j s];rw[Sem.run_bind,this,<-F,<-G];rfl
end pv
section ra
variable {P:Program} {md:Region.Mode} {ops:Array Oper} {Q:Exit->Act->World->Prop} {N f:Nat} {listed:Array Bool} {L:Env} {w:World}
def Qn(K:Act->World->Prop)(Q:Exit->Act->World->Prop):Exit->Act->World->Prop
 | .normal,a,w=>K a w
 |e,a,w=>Q e a w
def RA(P:Program)(md:Region.Mode)(ops:Array Oper)(Q:Exit->Act->World->Prop)(N f:Nat)(listed:Array Bool)(L:Env)(w:World):Prop:= ∀a,AW a N L->wpAny P md ops Q f listed a w
theorem AA3{o:Oper}{a:Act}{K b:Act->World->Prop}: ∀r:Result Next,o.upon P a b (Qn K Q) r->o.upon P a b Q r:=by
 intro r h
 cases r with
 |ok n w'=>
  cases n with
  |enter f args=>
   refine Calls.mono h ?_
   intro e i he
   cases e<;>exact he
  |_=>exact h
 |halt x w'=>cases x<;>exact h
theorem RA.of {is:List Nat}(e:Region.ready md ops listed=is)(b:is.isEmpty=false)(h: ∀i∈is,RL P ops (Qn (λ a' w'=>wpAny P md ops Q f (listed.setIfInBounds i true) a' w') Q) N (ops[i]?).toList L w):RA P md ops Q N (f+1) listed L w:=by
 intro a j
 refine⟨λ h0=>?_,λ i hi=>?_⟩
 ·rw[e]at h0;subst h0;cases b
 ·rw[e]at hi
  have h1:=h i hi a j
  unfold wpOp
  cases ho:ops[i]? with
  |none=>rw[ho]at h1;exact h1
  |some o=>
   rw[ho]at h1
   simp only[Option.toList_some]at h1
   unfold wpList at h1
   dsimp only
   split
   ·rename_i hw
    rw[if_pos hw]at h1
    rcases h1 with h1|⟨h1,k⟩
    ·exact .inl (AA3 _ h1)
    ·exact .inr ⟨h1,k⟩
   ·rename_i hw
    rw[if_neg hw]at h1;exact h1
theorem RA.next {K:Act->World->Prop}(h: ∀a,AW a N L->K a w): ∀a,AW a N L->(Qn K Q) .normal a w:=h
end ra
open Go.RowKit Go.Lib
theorem AA4{P:Program}(w:World)(base:Nat)(t u ty e:TypeId)(i:TypeInfo)(J:P.underlying t=some (.slice e))(hu:P.underlying u=some .string)(hi:P.info? e=some i)(W:i.zero=some (.int .u8 0))(l:i.size=1)(E:i.bytes=1)
  (v:Value) (n:Nat) (xs:List Value) (q:w.ownsRow base e 1 v n xs) (s:ByteArray) (F:n+s.size<=maxLen) (K:n+s.size<=140737488355328) (y:base<=w.heap.size):
  ∃v' w',(Builtin.append_ #[t,u] ty #[v,.string s]).run P w= .ok v' w'/\w'.ownsRow base e 1 v' (n+s.size) (xs++strCells s)/\Below base w w'/\
   (∀k,k<w.heap.size->v.ownBlock≠some k->w'.heap[k]? =w.heap[k]?)/\(∀g,v.ownBlock=some g-> ∀o,o<xs.length->w'.cell? ⟨g,o,none⟩=w.cell? ⟨g,o,none⟩)/\
   (v'.ownBlock=v.ownBlock\/ ∃b,v'.ownBlock=some b/\w.heap.size<=b):=by
 have L:n+s.size<=9223372036854775807:=by simp only[maxLen]at F;omega
 have z:xs.length=n:=by simpa using q.1
 have hlen:(xs++strCells s).length=(n+s.size)*1:=by rw[List.length_append,z,strCells_length,Nat.mul_one]
 have grown: ∀(old:Nat),
   (w.drew.alloc (.cells (xs.toArray++(strCells s).toArray++Builtin.zeroCells (Value.int .u8 0).cells (grownCap w (n+s.size) old e-(n+s.size))) e)).ownsRow base e 1
    (.slice (some ⟨w.heap.size,0,none⟩) (n+s.size) (grownCap w (n+s.size) old e)) (n+s.size) (xs++strCells s):=by
  intro old
  have N:=grownCap_ge w (n+s.size) old e
  have B:grownCap w (n+s.size) old e<=maxLen:=grownCap_le_maxLen w (n+s.size) old e F
  refine⟨hlen,.inr ⟨w.heap.size,_,_,rfl,y,heap_alloc_new w.drew _,N,B,?_,?_⟩⟩
  ·have O:(Value.int IntKind.u8 0).cells.size=1:=rfl
   simp only[Array.size_append,List.size_toArray,size_zeroCells,O,z,strCells_length]
   omega
  ·simp only[Array.toList_append,List.append_assoc]
   rw[<-List.append_assoc,<-hlen]
   exact List.take_left
 have h: ∀o:Obj,Below base w (w.drew.alloc o)/\(∀k,k<w.heap.size->(w.drew.alloc o).heap[k]? =w.heap[k]?):=λ o=>
  ⟨((Below.refl base w).drew).alloc y o,λ k C=>Below.heap_alloc w.drew o k C⟩
 rcases q.2 with⟨rfl,rfl⟩|⟨g,cap,cur,rfl,G,hg,hnc,B,Q,MA⟩
 ·have hx:xs=[]:=List.eq_nil_of_length_eq_zero z
  subst hx
  by_cases hm:s.size=0
  ·have hn:strCells s=[]:=List.eq_nil_of_length_eq_zero (by rw[strCells_length];exact hm)
   refine⟨.slice none 0 0,w,?_,by rw[hm,hn];exact World.ownsRow_nil w base e 1,Below.refl _ _,λ _ _ _=>rfl,λ _ _ _ _=>rfl,.inl U⟩
   have X:=run_firstCells_string (P:=P) w 1 s
   rw[hm]at X
   simp[Builtin.append_,run_underlying J,run_underlying hu,sizeOf,typeInfo,hi,l,Builtin.lenOf,hm,X]
  ·have D:=run_append_nil_string (P:=P) w t u ty e i (.int .u8 0) J hu hi W s Aa Aa (by rw[E];omega)
   have H:=grown 0
   simp only[Nat.zero_add,List.nil_append,Array.empty_append]at H ⊢
   have e1:(s.data.map λ b=>Value.int .u8 b.toNat)=(strCells s).toArray:=by
    apply Array.ext'
    simp[strCells]
   rw[e1]at D
   exact⟨_,_,D,H,(h _).1,λ k C _=>(h _).2 k C,λ g hg=>(by cases hg),.inr ⟨_,rfl,Nat.le_refl _⟩⟩
 ·by_cases hroom:n+s.size<=cap
  ·have hcs':cur.size=cap:=by simpa using Q
   have D:=run_append_room_string (P:=P) w t u ty e i J hu hi l g n cap cur hg s hroom Aa
   refine⟨_,_,D,⟨hlen,.inr ⟨g,cap,_,rfl,G,RD w g _ cur e _ hg,hroom,B,?_,?_⟩⟩,WB _ G,λ k _ C=>PK w g k _ (λ e=>C (by simp[Value.ownBlock,e])),λ M A o ho=>?_,.inl U⟩
   ·simp only[List.size_toArray,List.length_append,List.length_take,List.length_drop,Array.length_toList,strCells_length]
    omega
   ·have R:cur.toList.take n=xs:=by simpa using MA
    rw[R,<-hlen]
    exact List.take_left
   ·simp only[Value.ownBlock,Option.some.injEq]at A;subst A
    simp only[World.cell?,RD w g _ cur e _ hg,hg]
    have S:o<n:=by rw[<-z];exact ho
    have T:o<cur.size:=by omega
    rw[List.append_assoc]
    simp only[List.getElem?_toArray]
    rw[List.getElem?_append_left (by simp;omega),List.getElem?_take]
    simp[S,T]
  ·have holds: ∀j u,xs[j]? =some u->w.cell? ((⟨g,0,none⟩:Addr).add j)=some u:=q.cells (g:=g) U
   have D:=run_append_grow_string (P:=P) w t u ty e i (.int .u8 0) J hu hi W ⟨g,0,none⟩ n cap xs (by rw[l];simpa using z) holds s Aa Aa (by rw[E];exact growslice_fits Aa Aa)
   refine⟨_,_,D,grown cap,(h _).1,λ k C _=>(h _).2 k C,λ M A o _=>?_,.inr ⟨_,rfl,Nat.le_refl _⟩⟩
   have V:M<w.heap.size:=(World.ownsRow.lt q M A).2
   simp only[World.cell?,(h _).2 M V]
def ints(s:A0):List Int:=s.map (λ b=>(b.toNat:Int))
theorem U0(a b:A0):ints (a++b)=ints a++ints b:=List.map_append
theorem l5(s:A0):len (ints s)=len s:=by unfold ints len;simp
theorem AA5(s:A0):strCells ⟨⟨s⟩⟩=(ints s).flatMap BU:=by
 rw[TY];unfold strCells ints;rw[List.map_map];rfl
def U1:Value->Bool| .nilIface=>true|_=>false
theorem PV.U2 {P:Program}{C:World->Prop}{L:Env}{W:Bool}{d:Option Tmp}{ty:TypeId}{ps:String}{af:Array Edge}{gd:Option (Nat×Bool)}{t e:TypeId}{x:Operand}{v:Value}(hx:AD L W x v)(h:v= .nilIface\/ ∃u p,v= .iface u p)(b:P.underlying t=some (.interface (P.methodsAt t))):
  PV P C L W ⟨d,.binOp .neq t x (.const .nilIface) e,ty,ps,af,gd⟩ (.bool (!U1 v)):=
 .bin hx .c λ _ w _=>by
  rcases h with rfl|⟨u,p,rfl⟩
  ·have:=run_neq_nil_nil (P:=P) w t b
   simp[go_sem,this,U1]
  ·have:=run_neq_held_nil (P:=P) w t u p b
   simp[go_sem,this,U1]
theorem CW.AA6 {P:Program}{Q:Exit->Act->World->Prop}{N:Nat}{L:Env}{w:World}{c:Code}(n:Nat)(h:CW P c (Exit.then (Code.rounds P c Q n) Q) N L w):CW P (.loop c) Q N L w:=λ a b=>wp_loop_rounds (n+1) (h a b)
theorem PV.AA7 {P:Program}{C:World->Prop}{L:Env}{W:Bool}{d:Option Tmp}{ty:TypeId}{ps:String}{af:Array Edge}{gd:Option (Nat×Bool)}{w0 w:World}{M0 M:Mem}{Hs:List HO}{k:IntKind}{x:Operand}{i j b r c since:Nat}{seen:Array Nat}{l:List KV}{p:KV}{u:Value}(hS:St w0 M0 w M Hs)(hC: ∀w',C w'->Ext w w')(hi:Hs[i]? =some (.raw b (BN k l c)))(e:Hs[j]? =some (.raw r (.mapIter (some b) since (seen.push p.born) c)))(hx:AD L W x (.pointer (some ⟨r,0,none⟩)))
 (hp:p∈l) (h:(l.map (·.born)).Nodup) (hu:p.val=u):PV P C L W ⟨d,.entry x,ty,ps,af,gd⟩ (.tuple #[.int k p.key,u]):=hu▸PV.entry hS hC hi e hx hp h
section rl
variable {P:Program} {ops:Array Oper} {Q:Exit->Act->World->Prop} {N:Nat} {rest:List Oper} {L:Env} {w0 w:World} {M0 M:Mem} {Hs:List HO} {d:Nat} {ty:TypeId} {ps:String} {af:Array Edge}
theorem RL.AA8 {l:List Int}{s:A0}{t u e:TypeId}{x y:Operand}{i:TypeInfo}{k:Nat}{v:Value}(hS:St w0 M0 w M Hs)(E:Hs[k]? =some (.own e 1 v l.length (l.flatMap BU)))(hx:AD L true x v)(G:AD L true y (str s))
  (H:P.underlying t=some (.slice e)) (hu:P.underlying u=some .string) (hi:P.info? e=some i) (J:i.zero=some (.int .u8 0)) (b:i.size=1) (z:i.bytes=1)
  (F:len l+len s<=140737488355328) (hd:Nat.blt d N=true) {Hs':Value->List HO} (A: ∀v',Hs.set k (.own e 1 v' (l++ints s).length ((l++ints s).flatMap BU))=Hs' v')
  (h: ∀v' w' M',St w0 M0 w' M' (Hs' v')->M.le M'->RL P ops Q N rest ((d,true,v')::L) w'):RL P ops Q N (⟨some d,.call ⟨.builtin .append,#[x,y],#[t,u]⟩,ty,ps,af,none⟩::rest) L w:=by
 intro a j
 refine wpList_plain U λ K O=>?_
 obtain⟨q,_⟩:=hS.obj E
 have n:(ByteArray.mk ⟨s⟩).size=s.length:=rfl
 obtain⟨v',w',R,h1,S,T,V,W⟩:=AA4 (P:=P) w w0.heap.size t u ty e i H hu hi J b z v l.length _ q ⟨⟨s⟩⟩ (by rw[n];unfold len at F;simp only[maxLen];omega) (by rw[n];unfold len at F;omega) hS.size
 obtain⟨M',B,hle⟩:=hS.kL E h1 S T V W
 have key:(execOp a.eval ⟨some d,.call ⟨.builtin .append,#[x,y],#[t,u]⟩,ty,ps,af,none⟩).run P w= .ok (.value v') w':=by
  have C:(Builtin.append_ #[t,u] ty #[v,str s]).run P w= .ok v' w':=R
  simp only[execOp,resolve,invoke,builtin,Sem.run_bind,Sem.run_pure,Result.andThen_ok,List.map_toArray,List.map_cons,List.map_nil,hx a N j U,G a N j U,C]
 simp only[Oper.wp,key,Oper.upon_value]
 refine O _ _ (h _ _ M' ?_ hle _ (j.put hd true _))
 rw[<-A v',List.length_append,List.flatMap_append,<-AA5]
 have D:(ints s).length=(ByteArray.mk ⟨s⟩).size:=by rw[n];unfold ints;simp
 rw[D];exact B
end rl
def Sub(E LL:Env):Prop:= ∀t x,look E t=some x->look LL t=some x
theorem Sub.refl {b:Env}:Sub b b:=λ _ _ h=>h
theorem Sub.cons {E b:Env}{t:Nat}{g:Bool}{v:Value}(h:look b t=some (g,v))(k:Sub E b):Sub ((t,g,v)::E) b:=by
 intro i x hx
 by_cases e:t=i
 ·subst e;rw[N3]at hx;rw[h,hx]
 ·rw[O1 e]at hx;exact k i x hx
structure Fact where
 holds:Mem->Bool->Value->Prop
 mono: ∀ {M M':Mem} {g:Bool} {v:Value},M.le M'->holds M g v->holds M' g v
def Fact.is (W:Bool)(x:Value):Fact:=⟨λ _ g v=>g=W/\v=x,λ _ h=>h⟩
def Fact.sl (sz n:Nat)(cs:List Value):Fact:=⟨λ M g v=>g=true/\Sl M sz n v cs,λ h k=>⟨k.1,k.2.mono h⟩⟩
def Fact.any:Fact:=⟨λ _ _ _=>True,λ _ h=>h⟩
def DH(o:Oper):List Nat:=(o.after.toList.filter (λ e=>Region.binds .any e)).map (·.on)
def F8(l:List Oper)(j:Nat):Option Tmp:=(l[j]?).bind (·.dst)
def l6(L:Env):List Nat:=L.map (·.1)
def WH(l:List Oper)(ks:List Nat):Bool:=
 (List.range l.length).all (λ i=>((l[i]?).map (λ o=>(DH o).all (λ j=>Nat.blt j i))).getD false)&&
 (List.range l.length).all (λ i=>(List.range l.length).all (λ j=>Nat.beq i j||(match F8 l i,F8 l j with|some a,some b=> !(Nat.beq a b)|_,_=>true)))&&
 (List.range l.length).all (λ i=>(match F8 l i with|some a=>ks.all (λ t=> !(Nat.beq t a))|none=>true))
def PN(f:Nat->Oper->Prop):Nat->List Oper->Prop
 |_,[]=>True
 |k,o::r=>f k o/\PN f (k+1) r
theorem PN.cons {f:Nat->Oper->Prop}{k:Nat}{o:Oper}{r:List Oper}(h:f k o)(b:PN f (k+1) r):PN f k (o::r):=⟨h,b⟩
theorem PN.get {f:Nat->Oper->Prop}: ∀ {r:List Oper} {k i:Nat} {o:Oper},PN f k r->r[i]? =some o->f (k+i) o
 |[],_,_,_,_,h=>by simp at h
 |x::r,k,0,o,h,hi=>by simp at hi;subst hi;exact h.1
 |x::r,k,i+1,o,h,hi=>by
  have:=PN.get h.2 (show r[i]? =some o by simpa using hi)
  rw[show k+(i+1)=k+1+i from by omega];exact this
structure XF where
 f:Value->Mem->List HO->Prop
 mono: ∀ {v M M' X},M.le M'->f v M X->f v M' X
def XF.eq (g:Value->List HO):XF:=⟨λ v _ X=>X=g v,λ _ h=>h⟩
def XP(st:List (Nat×XF))(X0:List HO)(j:Nat)(LL:Env)(M:Mem)(X:List HO):Prop:=
 match j with
 |0=>X=X0
 |j+1=>match st[j]? with
  |some (t,f)=> ∃v,look LL t=some (true,v)/\f.f v M X
  |none=>True
section g
variable (P:Program) (Q:Exit->Act->World->Prop) (N:Nat) (w0:World) (M0 M:Mem) (HsQ:List HO) (Fs:List Fact) (l:List Oper) (L:Env) (st:List (Nat×XF)) (X0:List HO)
end g
theorem CW.scope {P:Program}{Q:Exit->Act->World->Prop}{N:Nat}{L:Env}{w:World}{c:Code}(h:CW P c (Exit.noGoto Q) N L w):CW P (.scope c) Q N L w:=λ a b=>wp_scope_straight (h a b)
def DI(r:Int):A0:=(Utf8.encode r).data.toList
theorem PV.bM {P:Program}{C:World->Prop}{L:Env}{W:Bool}{d:Option Tmp}{ty:TypeId}{ps:String}{af:Array Edge}{gd:Option (Nat×Bool)}{s t:TypeId}{x:Operand}{k:IntKind}{a:Int}(hx:AD L W x (.int k a))(b:P.underlying s=some (.int k))(e:P.underlying t=some .string):PV P C L W ⟨d,.convert s t x,ty,ps,af,gd⟩ (str (DI a)):=
 .un (f:=convert s t) (λ _=>rfl) hx λ _ w _=>run_convert_int_string w s t k a (by rw[b];rfl) e
theorem AA9{r:Int}(b:Utf8.valid r=true)(h:128<=r):2<=len (DI r)/\len (DI r)<=4/\128<=A4 (DI r) (len (DI r)-1):=by
 obtain⟨h1,k,e⟩:=encode_facts r b h
 have hl:len (DI r)=((Utf8.encode r).size:Int):=rfl
 refine⟨Aa,Aa,?_⟩
 have l:=e Aa
 have i:(len (DI r)-1).toNat=(Utf8.encode r).size-1:=by omega
 unfold A4
 rw[i]
 have j:(Utf8.encode r).size-1<(DI r).length:=by have:(DI r).length=(Utf8.encode r).size:=rfl;omega
 have:(DI r).getD ((Utf8.encode r).size-1) 0=(Utf8.encode r)[(Utf8.encode r).size-1]'Aa:=by
  rw[List.getD_eq_getElem?_getD,List.getElem?_eq_getElem j];rfl
 rw[this];omega
theorem zb:(∀a b:Bool,((a&&b)=true)=(a=true/\b=true))/\(∀a b:Bool,((a||b)=true)=(a=true\/b=true))/\(∀x y:Bool,(x&&y)=false↔x=false\/y=false)/\(∀x y:Bool,(x||y)=false↔x=false/\y=false)/\
  (∀(p:Prop) [Decidable p],(decide p=true)=p)/\(∀(p:Prop) [Decidable p],decide p=false↔ ¬p)/\(∀b:Bool,((!b)=true)=(b=false))/\(∀b:Bool,((!b)=false)=(b=true))/\
  (∀(α:Type) [BEq α] [LawfulBEq α] (a b:α),(a==b)=true↔a=b)/\(∀(α:Type) [BEq α] [LawfulBEq α] (a b:α),(a==b)=false↔a≠b)/\(∀(α:Type) [BEq α] [LawfulBEq α] (a b:α),(a != b)=true↔a≠b)/\(∀(α:Type) (a b:α),(a≠b)= ¬a=b)/\
  (∀a b:Bool,(!a)=b↔a= !b)/\((!true)=false)/\((!false)=true)/\(∀(α:Type) [BEq α] [LawfulBEq α] (a b:α),(a != b)=false↔a=b)/\(∀b:Bool,(¬b=true)=(b=false))/\(∀b:Bool,(¬b=false)=(b=true))/\(∀p:Prop,(p/\True)=p):=
 ⟨Bool.and_eq_true,Bool.or_eq_true,λ _ _=>Bool.and_eq_false_iff,λ _ _=>Bool.or_eq_false_iff,λ _=>decide_eq_true_eq,λ _=>decide_eq_false_iff_not,Bool.not_eq_true',Bool.not_eq_false',λ _ _ _ _ _=>beq_iff_eq,λ _ _ _ _ _=>beq_eq_false_iff_ne,λ _ _ _ _ _=>bne_iff_ne,
  λ _=>ne_eq,λ _ _=>Bool.not_eq_eq_eq_not,rfl,rfl,λ _ _ _ _ _=>bne_eq_false_iff_eq,Bool.not_eq_true,Bool.not_eq_false,and_true⟩
abbrev Y(k:Nat)(v:Value):Nat×Bool×Value:=(k,true,v)
theorem CW.at {P:Program}{N:Nat}{L:Env}{w:World}{y:Code}{Q':Exit->Act->World->Prop}(L':Env)(b:Eng.GF (l6 L') L=L')(h:CW P y Q' N L' w): ∀a,AW a N L->y.wp P Q' a w:=CW.on _ b h
theorem CW.sr {P:Program}{Q:Exit->Act->World->Prop}{N:Nat}{L:Env}{w:World}{id:Nat}{l:List Oper}{y:Code}(h:RL P l.toArray (Exit.then (y.wp P Q) Q) N l L w):CW P (.seq (.region id l.toArray false) y) Q N L w:=CW.seq (CW.region h)
section
variable {P:Program} {ops:Array Oper} {Q:Exit->Act->World->Prop} {N:Nat} {rest:List Oper} {L:Env} {w:World} {d k:Nat} {op:Op} {ty:TypeId} {ps:String} {af:Array Edge} {v:Value}
theorem RL.u (hp:PV P (· =w) L true ⟨some d,op,ty,ps,af,none⟩ v)(hd:Nat.blt d N=true)(h:RL P ops Q N rest ((d,true,v)::L) w):RL P ops Q N (⟨some d,op,ty,ps,af,none⟩::rest) L w:=RL.v .none hp hd h
theorem RL.m (hl:look L k=some (true,v))(hd:Nat.blt d N=true)(h:RL P ops Q N rest ((d,true,v)::L) w):RL P ops Q N (⟨some d,.move (.tmp k),ty,ps,af,none⟩::rest) L w:=RL.v .none (.move (.t hl)) hd h
theorem RL.a (hl:look L k=some (true,v))(hd:Nat.blt d N=true)(h:RL P ops Q N rest ((d,true,v)::L) w):RL P ops Q N (⟨some d,.assign (.tmp k),ty,ps,af,none⟩::rest) L w:=RL.v .none (.assign (.t hl)) hd h
end
structure Ends (P:Program) (fn:Func) (R:Ending->World->Prop) (Q:Exit->Act->World->Prop):Prop where
 all: ∀e a w,bodyPost P fn R e a w->Q e a w
theorem CW.O6 {P:Program}{N:Nat}{w:World}{f:FuncId}{fn:Func}{c:Code}{vs:List Value}{R:Ending->World->Prop}(b:P.funcs[f]? =some fn)(e:fn.body=some c)(i:fn.ntmps=N)(hl:vs.length<=N)
 (h: ∀Q,Ends P fn R Q->CW P c Q N (N4 0 vs) w):Calls P f vs.toArray w R:=CW.enter b e i hl (h _ ⟨λ _ _ _ h=>h⟩)
section
variable {P:Program} {fn:Func} {R:Ending->World->Prop} {Q:Exit->Act->World->Prop} {N:Nat} {L:Env} {w:World} {t u s:Tmp} {a b c:ResultVar} {v x y:Value}
theorem Ends.e0 (E:Ends P fn R Q)(b:fn.results= #[])(h:R (.returned (.tuple #[])) w): ∀a,AW a N L->Q .normal a w:=λ a e=>E.all _ _ _ (zQ b h a e)
theorem Ends.r1 (E:Ends P fn R Q)(b:fn.results= #[.tmp t])(hl:look L t=some (true,v))(h:R (.returned v) w): ∀a,AW a N L->Q .ret a w:=λ a e=>E.all _ _ _ (zB b hl h a e)
end
theorem CW.id {P:Program}{N:Nat}{L:Env}{w:World}{y:Code}{Q':Exit->Act->World->Prop}(h:CW P y Q' N L w): ∀a,AW a N L->y.wp P Q' a w:=h
theorem CW.bN {P:Program}{σ:Type}{x y:Code}{Q:Exit->Act->World->Prop}{N:Nat}{L:Env}{w:World}(b:σ->Env)(I:σ->World->Prop)(hx:CW P x (Exit.then (λ a' w'=> ∃s,AW a' N (b s)/\I s w') Q) N L w)
  (i: ∀s w',I s w'->CW P y Q N (b s) w'):CW P (.seq x y) Q N L w:=by
 refine CW.seq λ a j=>wp_mono (hx a j) λ e a' w' h=>?_
 cases e with
 |normal=>obtain⟨s,h1,k⟩:=h;exact i s w' k a' h1
 |exit id=>exact h
 |goto l=>exact h
 |ret=>exact h
 |panic n=>exact h
 |outgrown=>exact h
def AB0:TypeDesc->Bool| .interface _=>false|_=>true
section pv
variable {P:Program} {C:World->Prop} {L:Env} {W:Bool} {d:Option Tmp} {ty:TypeId} {ps:String} {af:Array Edge} {gd:Option (Nat×Bool)} {w0 w:World} {M0 M:Mem} {Hs:List HO}
theorem PV.iface {t:TypeId}{x:Operand}{v:Value}{u:TypeDesc}(hx:AD L W x v)(e:P.underlying t=some u)(b:AB0 u=true):PV P C L W ⟨d,.makeInterface t x,ty,ps,af,gd⟩ (.iface t v):=
 .un (f:=Instr.makeInterface t) (λ _=>rfl) hx λ _ w _=>by
  simp only[Instr.makeInterface,Sem.run_bind,run_underlying e,Result.andThen_ok]
  cases u<;>first|rfl|(exact absurd b Ab)|(cases b)
theorem PV.l7 {t e:TypeId}{x y:Operand}{n b:Nat}{k:IntKind}{i:Int}(j:Nat)(hx:AD L W x (.pointer (some ⟨b,0,none⟩)))(s:AD L W y (.int k i))(z:P.underlying t=some (.array n e))(A: ∀w,(sizeOf e).run P w= .ok 1 w)
  (hi:W=true->i=(j:Int)) (B:Nat.blt j n=true):PV P C L W ⟨d,.indexAddr t x y,ty,ps,af,gd⟩ (.pointer (some ⟨b,j,none⟩)):=by
 intro a N h l w' D
 have E:j<n:=Nat.le_of_ble_eq_true B
 have q:=hi l
 subst q
 have F:0<=(j:Int)/\(j:Int)<(n:Int):=by omega
 have key:(Instr.indexAt t (.pointer (some ⟨b,0,none⟩)) (.int k (j:Int))).run P w'= .ok (.pointer (some ⟨b,j,none⟩)) w':=by
  simp only[Instr.indexAt,asIntOf,Sem.run_bind,Sem.run_pure,run_underlying z,Result.andThen_ok,Instr.sureAddr,A,F,and_self,if_true,Int.toNat_natCast,Nat.mul_one,F6,Nat.zero_add]
 simp only[execOp,hx a N h l,s a N h l]
 rw[Sem.run_bind,key];rfl
theorem PV.slA {t e:TypeId}{x y:Operand}{n b:Nat}{k:IntKind}{i:Int}(j m:Nat)(hx:AD L W x (.pointer (some ⟨b,0,none⟩)))(z:AD L W y (.int k i))(A:P.underlying t=some (.array n e))(B: ∀w,(sizeOf e).run P w= .ok 1 w)
  (hi:W=true->i=(j:Int)) (D:Nat.blt j n=true) (hm:n-j=m):PV P C L W ⟨d,.slice t x (some y) none none,ty,ps,af,gd⟩ (.slice (some ⟨b,j,none⟩) m m):=by
 intro a N h l w' E
 have F:j<n:=Nat.le_of_ble_eq_true D
 have q:=hi l
 subst q;subst hm
 have G:0<=(j:Int)/\(j:Int)<=(n:Int):=by omega
 have s: ¬n=j:=by omega
 have key:(Instr.sliceAt t (.pointer (some ⟨b,0,none⟩)) (some (.int k (j:Int))) none none).run P w'= .ok (.slice (some ⟨b,j,none⟩) (n-j) (n-j)) w':=by
  simp only[Instr.sliceAt,Sem.run_bind,Sem.run_pure,run_underlying A,Result.andThen_ok,Instr.sureAddr,Instr.sliceBounds,Instr.sliceBound,asIntOf,B,G,and_self,if_true,Int.toNat_natCast,Nat.mul_one,F6,Nat.zero_add,s,if_false]
 simp only[execOp,hx a N h l,Option.map_some,Option.map_none,z a N h l]
 rw[Sem.run_bind,key];rfl
theorem PV.AB2 {src dst e z:TypeId}{x:Operand}{l:List Int}{cs:List Value}{i b o n cap:Nat}(hS:St w0 M0 w M Hs)(hC: ∀w',C w'->Ext w w')(hi:Hs[i]? =some (.box b cs z))(hx:AD L W x (.slice (some ⟨b,o,none⟩) n cap))
  (A:n=l.length) (B:(cs.drop o).take n=l.map (Value.int .u8)) (D:P.underlying src=some (.slice e)) (he:P.underlying e=some (.int .u8)) (hd:P.underlying dst=some .string):PV P C L W ⟨d,.convert src dst x,ty,ps,af,gd⟩ (str (toStr l)):=by
 subst A
 intro a N s E w' y
 have k: ∀j v',(l.map (Value.int .u8))[j]? =some v'->w'.cell? ((⟨b,o,none⟩:Addr).add j)=some v':=by
  intro j v' q
  rw[F6]
  refine hS.cell (hC w' y) hi ?_
  rw[<-B,List.getElem?_take,List.getElem?_drop]at q
  split at q
  ·exact q
  ·cases q
 have h:=run_loadCells_list (P:=P) w' ⟨b,o,none⟩ (l.map (Value.int .u8)) k
 rw[List.length_map]at h
 have key:(convert src dst (.slice (some ⟨b,o,none⟩) l.length cap)).run P w'= .ok (str (toStr l)) w':=by
  rw[run_convert_bytes_string w' src dst e (some ⟨b,o,none⟩) l.length cap D he hd,run_bytesToString w' ⟨b,o,none⟩ l.length cap l h,foldl_push]
  simp[str]
 simp only[execOp,hx a N s E]
 rw[Sem.run_bind,key];rfl
end pv
section rl
variable {P:Program} {ops:Array Oper} {Q:Exit->Act->World->Prop} {N:Nat} {rest:List Oper} {L:Env} {w0 w:World} {M0 M:Mem} {Hs:List HO} {d:Nat} {ty:TypeId} {ps:String} {af:Array Edge}
theorem RL.st {t l:TypeId}{x y:Operand}{i b o n:Nat}{cs cs':List Value}{v:Value}(hS:St w0 M0 w M Hs)(hi:Hs[i]? =some (.box b cs l))(hx:AD L true x (.pointer (some ⟨b,o,none⟩)))(q:AD L true y v)(s: ∀w,(sizeOf t).run P w= .ok n w)
 (z:v.cells.toList.length=n) (e:Nat.ble (o+n) cs.length=true) (h1:(v.cells.toList.all (·.oneCell'))=true) {Hs':List HO} (j:Hs.set i (.box b cs' l)=Hs') (k:DF cs o v.cells.toList=cs')
 (h: ∀w',St w0 M0 w' M Hs'->RL P ops Q N rest L w'):RL P ops Q N (⟨none,.store t x y,ty,ps,af,none⟩::rest) L w:=RL.kH hS hi hx q s z e h1 k j h
theorem RL.bytes {s:A0}{src dst e:TypeId}{x:Operand}(hS:St w0 M0 w M Hs)(hx:AD L true x (str s))(C:P.underlying src=some .string)(D:P.underlying dst=some (.slice e))(he:P.underlying e=some (.int .u8))(hl:len s<=140737488355328)(hd:Nat.blt d N=true)
  (h: ∀v w' M',St w0 M0 w' M' Hs->M.le M'->Sl M' 1 (ints s).length v ((ints s).flatMap BU)->RL P ops Q N rest ((d,true,v)::L) w'):RL P ops Q N (⟨some d,.convert src dst x,ty,ps,af,none⟩::rest) L w:=by
 intro a l
 refine wpList_plain U λ K E=>?_
 have F:(ByteArray.mk ⟨s⟩).size=s.length:=rfl
 have hlen:(ints s).length=s.length:=by unfold ints;simp
 have key:(execOp a.eval ⟨some d,.convert src dst x,ty,ps,af,none⟩).run P w= .ok (.value (.slice (some ⟨w.heap.size,0,none⟩) s.length (grownCap w s.length 0 e))) (bytesWorld w e ⟨⟨s⟩⟩):=by
  simp only[execOp,hx a N l U]
  rw[Sem.run_bind,Go.Lib.run_convert_string_bytes w src dst e ⟨⟨s⟩⟩ C D he];rfl
 simp only[Oper.wp,key,Oper.upon_value]
 have i: ∀j,j<s.length->(bytesWorld w e ⟨⟨s⟩⟩).cell? ⟨w.heap.size,j,none⟩=((ints s).flatMap BU)[j]?:=by
  intro j n
  rw[bytesWorld_cell w e ⟨⟨s⟩⟩ j n,TY]
  unfold ints
  simp[n,List.getD]
 have q:((ints s).flatMap BU).length=s.length:=by rw[TY];simp[hlen]
 have g:Grow w M (bytesWorld w e ⟨⟨s⟩⟩) (JY M w.heap.size ((ints s).flatMap BU)):=by
  have hE:Ext w (bytesWorld w e ⟨⟨s⟩⟩):=Joins.below_bytesWorld _ _ _ _ (Nat.le_refl _)
  refine⟨hE,⟨λ b o v k=>?_⟩,λ b o A=>?_⟩
  ·unfold JY at k
   split at k
   ·rename_i A;subst A
    have ho:o<s.length:=by
     rcases Nat.lt_or_ge o s.length with B|B
     ·exact B
     ·rw[List.getElem?_eq_none Aa]at k;cases k
    rw[i o ho];exact k
   ·exact(hS.sat.ext hE).cell b o v k
  ·unfold JY
   rw[if_neg Aa]
 refine E _ _ (h _ _ _ (hS.grow g) (g.le hS.sat) ?_ _ (l.put hd true _))
 have y:=grownCap_ge w s.length 0 e
 have z:grownCap w s.length 0 e<=maxLen:=grownCap_le_maxLen w s.length 0 e (by unfold len at hl;simp only[maxLen];omega)
 refine⟨by rw[q,hlen,Nat.mul_one],_,_,by rw[hlen],by rw[hlen];exact y,z,λ _=>⟨_,_,rfl,λ j n=>?_⟩⟩
 unfold JY
 rw[if_pos U,Nat.zero_add]
end rl
structure Kn:Type 1 where
 {α:Type}
 [inh:Inhabited α]
 v:Value
 sz:Nat
 l:List α
 f:α->List Value
 g:Mem->Prop
 hg: ∀M M',M.le M'->g M->g M'
abbrev kn{α:Type}[Inhabited α](v:Value)(sz:Nat)(l:List α)(f:α->List Value):Kn:=⟨v,sz,l,f,λ _=>True,λ _ _ _ _=>trivial⟩
structure Kn.ok (M:Mem) (k:Kn):Prop where
 sl:Sl M k.sz k.l.length k.v (k.l.flatMap k.f)
 sz: ∀x,(k.f x).length=k.sz
 more:k.g M
theorem Kn.ok.mono {M M':Mem}{k:Kn}(h:k.ok M)(hm:M.le M'):k.ok M':=⟨h.sl.mono hm,h.sz,k.hg _ _ hm h.more⟩
inductive XV where
 |v (x:Value)
 |sl (k:Nat) (x:Value)
 |el (k:Nat) (x:Value) (sz:Nat) (i:Int) (j:Nat)
 |bx (k b o:Nat)
 |ag (cs:List XV)
 |tu (vs:List XV)
def XV.d0:XV->Value
 | .v x=>x
 | .sl _ x=>x
 | .el _ x sz i j=>.pointer (some ⟨sb x,so x+i.toNat*sz+j,none⟩)
 | .bx _ b o=>.pointer (some ⟨b,o,none⟩)
 |_=>undef
def XV.d1:XV->Value
 | .ag cs=>.agg (cs.map XV.d0).toArray
 |x=>x.d0
def XV.d:XV->Value
 | .tu vs=>.tuple (vs.map XV.d1).toArray
 |x=>x.d1
inductive Gd where
 |t
 |g (b:Bool)
def Gd.d:Gd->Bool
 | .t=>true
 | .g b=>b
abbrev XE:=List (Nat×Gd×XV)
def XE.d (L:XE):Env:=L.map λ x=>(x.1,x.2.1.d,x.2.2.d)
def BM:XE->Nat->Option (Gd×XV)
 |[],_=>none
 |(t,g,v)::L,k=>match Nat.beq t k with
  |true=>some (g,v)
  |false=>BM L k
theorem I8: ∀ {L:XE} {k:Nat} {g:Gd} {v:XV},BM L k=some (g,v)->look L.d k=some (g.d,v.d)
 |[],_,_,_,h=>by cases h
 |(t,g',v')::L,k,g,v,h=>by
  unfold BM at h
  show look ((t,g'.d,v'.d)::XE.d L) k=_
  unfold look
  split at h<;>rename_i e<;>rw[e]
  ·cases h;rfl
  ·exact I8 h
inductive Ck where
 |b (x y:Bool)
 |n (x y:Nat)
 |v (x y:Value)
def Ck.holds:Ck->Prop
 | .b x y=>x=true->y=true
 | .n x y=>x=y
 | .v x y=>x=y
def Ck.diag:Ck->Ck
 | .b x _=>.b x x
 | .n x _=>.n x x
 | .v x _=>.v x x
abbrev A9(E:List Ck):Prop:= ∀c∈E,c.holds
theorem AG{E:List Ck}(h:E.map Ck.diag=E):A9 E:=by
 intro c j
 obtain⟨i,hi⟩:=List.getElem?_of_mem j
 have e:(E.map Ck.diag)[i]? =some c:=by rw[h];exact hi
 rw[List.getElem?_map,hi]at e
 simp only[Option.map_some,Option.some.injEq]at e
 cases c with
 |b x y=>simp only[Ck.diag,Ck.b.injEq,true_and]at e;subst e;exact id
 |n x y=>simp only[Ck.diag,Ck.n.injEq,true_and]at e;subst e;rfl
 |v x y=>simp only[Ck.diag,Ck.v.injEq,true_and]at e;subst e;rfl
theorem Af{p:Prop}(h:p:=by first|omega|(simp only[zb]<;>omega)):p:=h
theorem Ae{p:Prop}(h:p:=by simp only[zb]<;>omega):p:=h
theorem Ad{E:List Ck}(h:E.map Ck.diag=E:=by exact U):A9 E:=AG h
inductive TK where
 |str|bool|int (k:IntKind)|row (e:TypeId) (esz:Nat)|st (fs:List (Nat×Nat×Bool)) (zs:List Value)|any
structure TD where
 k:TK
 sz:Nat
 agg:Bool
def M7(fs:List (Nat×Nat×Bool)):List Value->List (Nat×Value)->Option (List Value)
 |cs,[]=>some cs
 |cs,(i,v)::ps=>match fs[i]? with
  |some (off,n,_)=>if v.cells.toList.length=n/\off+n<=cs.length then M7 fs (DF cs off v.cells.toList) ps else none
  |none=>none
def TK.ok (P:Program)(t:TypeId)(sz:Nat):TK->Prop
 | .str=>P.underlying t=some .string
 | .bool=>P.underlying t=some .bool
 | .int k=>P.underlying t=some (.int k)
 | .row e esz=>P.underlying t=some (.slice e)/\ ∀w,(sizeOf e).run P w= .ok esz w
 | .st fs zs=>(∀(ps:List (Nat×Value)) (cs:List Value) w,M7 fs zs ps=some cs->(Instr.build t ps.toArray).run P w= .ok (.agg cs.toArray) w)/\ ∀i off n g,fs[i]? =some (off,n,g)->
  (∀b o w,(Instr.fieldAt t (.pointer (some ⟨b,o,none⟩)) i).run P w= .ok (.pointer (some ⟨b,o+off,none⟩)) w)/\
  (∀(cs:List Value) w,cs.length=sz->off+n<=sz/\(Instr.field t (.agg cs.toArray) i).run P w= .ok (if g then .agg ((cs.drop off).take n).toArray else cs.getD off undef) w)
 | .any=>True
structure TD.ok (P:Program) (t:TypeId) (d:TD):Prop where
 agg: ∀w,(isAgg t).run P w= .ok d.agg w
 size: ∀w,(sizeOf t).run P w= .ok d.sz w
 kind:d.k.ok P t d.sz
abbrev TT:=List (Nat×TD)
def G0:TT->Nat->Option TD
 |[],_=>none
 |(t,d)::T,k=>match Nat.beq t k with
  |true=>some d
  |false=>G0 T k
def KI:List (Nat×Kn)->Nat->Option Kn
 |[],_=>none
 |(t,d)::F,k=>match Nat.beq t k with
  |true=>some d
  |false=>KI F k
theorem l8: ∀ {F:List (Nat×Kn)} {k:Nat} {x:Kn},KI F k=some x-> ∃i,(i,x)∈F
 |[],_,_,h=>by cases h
 |(t,d)::F,k,x,h=>by
  unfold KI at h
  split at h
  ·cases h;exact⟨t,.head _⟩
  ·obtain⟨i,hi⟩:=l8 h;exact⟨i,.tail _ hi⟩
inductive HX:Type 1 where
 |box (b:Nat) (cs:List XV) (t:TypeId)
 |pv (e:TypeId) (K:Kn) (h: ∀x,(K.f x).length=K.sz)
 |ho (x:HO)
def HX.d:HX->HO
 | .box b cs t=>.box b (cs.map XV.d0) t
 | .pv e (@Kn.mk α inh v sz l f _ _) _=>.priv e sz v l.length (l.flatMap f)
 | .ho x=>x
def DO:List (Nat×HX)->Nat->Option HX
 |[],_=>none
 |(t,d)::H,k=>match Nat.beq t k with
  |true=>some d
  |false=>DO H k
def D4:List (Nat×HX)->Nat->HX->List (Nat×HX)
 |[],_,_=>[]
 |(t,d)::H,k,x=>match Nat.beq t k with
  |true=>(t,x)::H
  |false=>(t,d)::D4 H k x
def HD(H:List (Nat×HX)):List HO:=H.map λ x=>x.2.d
theorem l9: ∀ {H:List (Nat×HX)} {k:Nat} {x:HX},DO H k=some x-> ∃i:Nat,(HD H)[i]? =some x.d/\ ∀y,HD (D4 H k y)=(HD H).set i y.d
 |[],_,_,h=>by cases h
 |(t,d)::H,k,x,h=>by
  unfold DO at h
  split at h<;>rename_i e
  ·cases h
   refine⟨0,rfl,λ y=>?_⟩
   simp only[D4,e];rfl
  ·obtain⟨i,h1,b⟩:=l9 h
   refine⟨i+1,by simpa[HD]using h1,λ y=>?_⟩
   simp only[D4,e]
   show d.d::HD (D4 H k y)=_
   rw[b y];rfl
def nth{α:Type}:List α->Nat->Option α
 |[],_=>none
 |x::_,0=>some x
 |_::l,n+1=>nth l n
theorem I9{α:Type}: ∀(l:List α) (n:Nat),nth l n=l[n]?
 |[],_=>by simp[nth]
 |_::_,0=>by simp[nth]
 |_::l,n+1=>by simp[nth,I9 l n]
def KJ{α:Type}:List α->Nat->Nat->Option (List α)
 |_,0,0=>some []
 |[],_,_=>none
 |x::l,0,n+1=>match KJ l 0 n with
  |some r=>some (x::r)
  |none=>none
 |_::l,o+1,n=>KJ l o n
theorem U3{α:Type}: ∀(l:List α) (o n:Nat) (r:List α),KJ l o n=some r->r=(l.drop o).take n/\r.length=n/\o+n<=l.length
 |l,0,0,r,h=>by unfold KJ at h;cases h;simp
 |[],o+1,n,r,h=>by simp[KJ]at h
 |[],0,n+1,r,h=>by simp[KJ]at h
 |x::l,0,n+1,r,h=>by
  unfold KJ at h
  split at h
  ·rename_i r' i
   cases h
   obtain⟨h1,b,e⟩:=U3 l 0 n r' i
   refine⟨by rw[h1];simp,by simp[b],by simp at e ⊢;omega⟩
  ·cases h
 |x::l,o+1,n,r,h=>by
  have j:KJ l o n=some r:=by unfold KJ at h;exact h
  obtain⟨h1,b,e⟩:=U3 l o n r j
  exact⟨by rw[h1];simp,b,by simp;omega⟩
def KK{α:Type}:List α->Nat->List α->Option (List α)
 |l,0,[]=>some l
 |[],_,_=>none
 |_::l,0,v::vs=>match KK l 0 vs with
  |some r=>some (v::r)
  |none=>none
 |x::l,o+1,vs=>match KK l o vs with
  |some r=>some (x::r)
  |none=>none
theorem put_eq{α:Type}: ∀(l:List α) (o:Nat) (vs r:List α),KK l o vs=some r->r=l.take o++vs++l.drop (o+vs.length)/\o+vs.length<=l.length
 |l,0,[],r,h=>by unfold KK at h;cases h;simp
 |[],o+1,vs,r,h=>by simp[KK]at h
 |[],0,v::vs,r,h=>by simp[KK]at h
 |x::l,0,v::vs,r,h=>by
  unfold KK at h
  split at h
  ·rename_i r' b
   cases h
   obtain⟨h1,e⟩:=put_eq l 0 vs r' b
   simp at h1 e
   exact⟨by rw[h1];simp,by simp;omega⟩
  ·cases h
 |x::l,o+1,vs,r,h=>by
  unfold KK at h
  split at h
  ·rename_i r' b
   cases h
   obtain⟨h1,e⟩:=put_eq l o vs r' b
   refine⟨?_,by simp;omega⟩
   rw[h1,show o+1+vs.length=(o+vs.length)+1 from by omega];simp
  ·cases h
def G9:List Value->List XV
 |[]=>[]
 |x::l=>.v x::G9 l
def RI:List Value->Option (List XV)
 |[]=>some []
 |x::l=>match RI l with
  |some r=>some (.v x::r)
  |none=>none
theorem WI: ∀(l:List Value) (r:List XV),RI l=some r->r.map XV.d0=l
 |[],r,h=>by cases h;rfl
 |x::l,r,h=>by
  unfold RI at h
  split at h
  ·rename_i r' b;cases h;simp[WI l r' b,XV.d0]
  ·cases h
def B5(L:XE)(W:Gd):Operand->Option (XV×List Ck)
 | .tmp k=>match BM L k with
  |some (.t,v)=>some (v,[])
  |some (.g b,v)=>match W with
   | .t=>some (v,[.b true b])
   | .g a=>some (v,[.b a b])
  |none=>none
 | .const v=>some (.v v,[])
 | .global k=>some (.v (.pointer (some ⟨k,0,none⟩)),[])
 | .func f=>some (.v (.func (.func f) #[] #[]),[])
theorem AF{L:XE}{W:Gd}{x:Operand}{v:XV}{E:List Ck}(h:B5 L W x=some (v,E))(hE:A9 E:=by exact Ad):AD L.d W.d x v.d:=by
 cases x with
 |tmp k=>
  simp only[B5]at h
  split at h
  ·rename_i v' e;simp only[Option.some.injEq,Prod.mk.injEq]at h;obtain⟨rfl,rfl⟩:=h;exact .t (I8 e)
  ·rename_i b v' e
   cases W with
   |t=>simp only[Option.some.injEq,Prod.mk.injEq]at h;obtain⟨rfl,rfl⟩:=h;exact .g (I8 e) (hE _ (.head _))
   |g a=>simp only[Option.some.injEq,Prod.mk.injEq]at h;obtain⟨rfl,rfl⟩:=h;exact .g (I8 e) (hE _ (.head _))
  ·cases h
 |const v'=>simp only[B5,Option.some.injEq,Prod.mk.injEq]at h;obtain⟨rfl,rfl⟩:=h;exact .c
 |global k=>simp only[B5,Option.some.injEq,Prod.mk.injEq]at h;obtain⟨rfl,rfl⟩:=h;exact .gl
 |func f=>simp only[B5,Option.some.injEq,Prod.mk.injEq]at h;obtain⟨rfl,rfl⟩:=h;exact .f
theorem A9.app {E e:List Ck}(h:A9 (E++e)):A9 E/\A9 e:=⟨λ c b=>h c (List.mem_append_left _ b),λ c b=>h c (List.mem_append_right _ b)⟩
abbrev RJ:=Option (XV×List Prop×List Ck)
def PO(k:IntKind)(r:Int):List Prop:=match k with
 | .i64=>[-9223372036854775808<=r/\r<=9223372036854775807]
 | .u8=>[0<=r/\r<=255]
 | .i32=>[-2147483648<=r/\r<=2147483647]
 | .u32=>[0<=r/\r<=4294967295]
 | .u64=>[0<=r/\r<=18446744073709551615]
 |k=>[k.wrap r=r]
def IS:List Prop->Prop
 |[]=>True
 |p::ps=>p/\IS ps
theorem U4{k:IntKind}{r:Int}(h:IS (PO k r)):k.wrap r=r:=by
 cases k<;>simp only[PO,IS,and_true]at h<;>first|exact h|(simp[IntKind.wrap,IntKind.signed,IntKind.bits];omega)
def arith(op:BinOp)(k:IntKind)(a b:Int):Option (Int×List Prop):=
 match op with
 | .add=>some (a+b,PO k (a+b))
 | .sub=>some (a-b,PO k (a-b))
 | .mul=>some (a*b,PO k (a*b))
 | .quo=>match k with
  | .i64=>some (a/b,[0<=a/\a<=9223372036854775807/\0<b])
  |_=>none
 | .rem=>match k with
  | .i64=>some (a%b,[0<=a/\0<b])
  |_=>none
 |_=>none
def lA(op:BinOp)(a b:Int):Option Bool:=
 match op with
 | .lss=>some (decide (a<b))
 | .leq=>some (decide (a<=b))
 | .gtr=>some (decide (b<a))
 | .geq=>some (decide (b<=a))
 | .eql=>some (a==b)
 | .neq=>some (a != b)
 |_=>none
def lB(op:BinOp)(a b:A0):Option Bool:=
 match op with
 | .lss=>some (Op.bytesLess a b)
 | .leq=>some (Op.bytesLess a b||a==b)
 | .gtr=>some (!(Op.bytesLess a b||a==b))
 | .geq=>some (!Op.bytesLess a b)
 | .eql=>some (a==b)
 | .neq=>some (!(a==b))
 |_=>none
def U5:IntKind->IntKind->Bool
 | .i64,.i64=>true
 | .u8,.u8=>true
 | .i32,.i32=>true
 | .u32,.u32=>true
 | .u64,.u64=>true
 | .i8,.i8=>true
 | .i16,.i16=>true
 | .u16,.u16=>true
 |_,_=>false
theorem WJ{a b:IntKind}(h:U5 a b=true):a=b:=by cases a<;>cases b<;>first|rfl|(exact absurd h Ab)|cases h
def bO(op:BinOp):XV->XV->Option (XV×List Prop)
 | .v (
    .int k a),.v (.int k' b)=>match U5 k k' with
  |true=>match lA op a b with
   |some r=>some (.v (.bool r),[])
   |none=>match arith op k a b with
    |some (r,p)=>some (.v (.int k r),p)
    |none=>none
  |false=>none
 | .v (.string ⟨⟨a⟩⟩),.v (.string ⟨⟨b⟩⟩)=>match lB op a b with
  |some r=>some (.v (.bool r),[])
  |none=>match op with
   | .add=>some (.v (.string ⟨⟨a++b⟩⟩),[len a+len b<=9223372036854775807])
   |_=>none
 |_,_=>none
section
variable {P:Program} {C:World->Prop} {L:Env} {W:Bool} {d:Option Tmp} {ty:TypeId} {ps:String} {af:Array Edge} {gd:Option (Nat×Bool)}
theorem AB3{op:BinOp}{t l:TypeId}{x y:Operand}{a b v:XV}{p:List Prop}(h:bO op a b=some (v,p))(hx:AD L W x a.d)(e:AD L W y b.d)(hp:W=true->IS p):PV P C L W ⟨d,.binOp op t x y l,ty,ps,af,gd⟩ v.d:=by
 unfold bO at h
 split at h
 ·rename_i k a' k' n
  split at h
  ·rename_i q
   have:=WJ q;subst this
   split at h
   ·rename_i r i
    simp only[Option.some.injEq,Prod.mk.injEq]at h;obtain⟨rfl,rfl⟩:=h
    cases op<;>simp only[lA,Option.some.injEq,reduceCtorEq]at i<;>subst i
    ·exact .eql hx e
    ·exact .neq hx e
    ·exact .lss hx e
    ·exact .leq hx e
    ·exact .gtr hx e
    ·exact .geq hx e
   ·split at h
    ·rename_i r s i
     simp only[Option.some.injEq,Prod.mk.injEq]at h;obtain⟨rfl,rfl⟩:=h
     cases op<;>simp only[arith,Option.some.injEq,Prod.mk.injEq,reduceCtorEq]at i
     ·obtain⟨rfl,rfl⟩:=i;exact .k8 hx e λ j=>U4 (hp j)
     ·obtain⟨rfl,rfl⟩:=i;exact .k9 hx e λ j=>U4 (hp j)
     ·obtain⟨rfl,rfl⟩:=i;exact .yS hx e λ j=>U4 (hp j)
     ·split at i<;>simp only[Option.some.injEq,Prod.mk.injEq,reduceCtorEq]at i
      obtain⟨rfl,rfl⟩:=i;exact .quo hx e λ j=>(hp j).1
     ·split at i<;>simp only[Option.some.injEq,Prod.mk.injEq,reduceCtorEq]at i
      obtain⟨rfl,rfl⟩:=i;exact .rem hx e λ j=>(hp j).1
    ·cases h
  ·cases h
 ·rename_i a' n
  split at h
  ·rename_i r i
   simp only[Option.some.injEq,Prod.mk.injEq]at h;obtain⟨rfl,rfl⟩:=h
   cases op<;>simp only[lB,Option.some.injEq,reduceCtorEq]at i<;>subst i
   ·exact .aU hx e
   ·exact .yV hx e
   ·exact .yW hx e
   ·exact .yX hx e
   ·exact .yY hx e
   ·exact .yZ hx e
  ·split at h
   ·simp only[Option.some.injEq,Prod.mk.injEq]at h;obtain⟨rfl,rfl⟩:=h
    exact .z7 hx e λ j=>(hp j).1
   ·cases h
 ·cases h
end
def O7(F:List (Nat×Kn))(H:List (Nat×HX))(k:Nat):Option Kn:=
 match KI F k with
 |some K=>some K
 |none=>match DO H k with
  |some (.pv _ (@Kn.mk α inh v sz l f g' hg') _)=>some (@kn α inh v sz l f)
  |_=>none
def IA(L:XE)(W:Gd)(x y:Operand):Option (XV×XV×List Ck):=
 match B5 L W x with
 |some (a,E)=>match B5 L W y with
  |some (b,E')=>some (a,b,E++E')
  |none=>none
 |none=>none
theorem GA{L:XE}{W:Gd}{x y:Operand}{a b:XV}{E:List Ck}(h:IA L W x y=some (a,b,E))(hE:A9 E):AD L.d W.d x a.d/\AD L.d W.d y b.d:=by
 unfold IA at h
 split at h
 ·rename_i a' E1 h1
  split at h
  ·rename_i i E2 e
   simp only[Option.some.injEq,Prod.mk.injEq]at h;obtain⟨rfl,rfl,rfl⟩:=h
   exact⟨AF h1 (hE:=hE.app.1),AF e (hE:=hE.app.2)⟩
  ·cases h
 ·cases h
def Gd.and (W:Gd)(b:Bool):Gd:=match W with
 | .t=>.g b
 | .g a=>.g (a&&b)
theorem Gd.lC (W:Gd)(b:Bool):(W.and b).d=(W.d&&b):=by cases W<;>simp[Gd.and,Gd.d]
def M8:XV->Option Bool
 | .v (.bool b)=>some b
 |_=>none
theorem O8{v:XV}{b:Bool}(h:M8 v=some b):v= .v (.bool b):=by unfold M8 at h;split at h<;>simp_all
def N7:XV->Option (IntKind×Int)
 | .v (.int k b)=>some (k,b)
 |_=>none
theorem PQ{v:XV}{k:IntKind}{b:Int}(h:N7 v=some (k,b)):v= .v (.int k b):=by unfold N7 at h;split at h<;>simp_all
def bP(L:XE)(W:Gd)(c x y:Operand):RJ:=
 match B5 L W c with
 |some (
     vc,E)=>match M8 vc with
  |some p=>match y with
   | .const (.bool false)=>match B5 L (W.and p) x with
    |some (vx,E')=>match M8 vx with
     |some q=>some (.v (.bool (p&&q)),[],E++E')
     |none=>none
    |none=>none
   |_=>match x with
    | .const (.bool true)=>match B5 L (W.and (!p)) y with
     |some (vy,E')=>match M8 vy with
      |some q=>some (.v (.bool (p||q)),[],E++E')
      |none=>none
     |none=>none
    |_=>none
  |none=>none
 |none=>none
def bQ(T:TT)(s t:TypeId)(a:XV):Option (XV×List Prop):=
 match N7 a with
 |some (k,n)=>match G0 T s with
  |some ⟨.int k1,_,_⟩=>match G0 T t with
   |some ⟨.int k2,_,_⟩=>match U5 k k1 with
    |true=>some (.v (.int k2 n),PO k2 n)
    |false=>none
   |_=>none
  |_=>none
 |none=>none
def U6:XV->Option A0
 | .v (.string ⟨⟨a⟩⟩)=>some a
 |_=>none
theorem bR{v:XV}{a:A0}(h:U6 v=some a):v= .v (str a):=by unfold U6 at h;split at h<;>simp_all
def bS(T:TT)(F:List (Nat×Kn))(H:List (Nat×HX))(t:TypeId)(a:XV):Option (XV×List Ck):=
 match G0 T t with
 |some ⟨.str,_,_⟩=>match U6 a with
  |some l=>some (.v (i64 (len l)),[])
  |none=>none
 |some ⟨.row e esz,_,_⟩=>match a with
  | .sl k x=>match O7 F H k with
   |some (@Kn.mk α inh kv sz l f g' hg')=>some (.v (i64 (len l)),[.v x kv])
   |none=>none
  |_=>none
 |_=>none
def bT(T:TT)(F:List (Nat×Kn))(H:List (Nat×HX))(t:TypeId)(a b:XV):RJ:=
 match a with
 | .sl k x=>match G0 T t with
  |some ⟨.row e esz,_,_⟩=>match N7 b with
   |some (_,i)=>match O7 F H k with
    |some (@Kn.mk α inh kv sz l f g' hg')=>some (.el k x esz i 0,[0<=i/\i<len l],[.v x kv,.n esz sz])
    |none=>none
   |none=>none
  |_=>none
 |_=>none
def bU(T:TT)(t:TypeId)(a:XV)(f:Nat):Option XV:=
 match G0 T t with
 |some ⟨.st fs _,_,_⟩=>match nth fs f with
  |some (off,_,_)=>match a with
   | .el k x sz i j=>some (.el k x sz i (j+off))
   | .bx k b o=>some (.bx k b (o+off))
   |_=>none
  |none=>none
 |_=>none
def bV:XV->Bool
 | .ag _=>false
 | .tu _=>false
 |_=>true
def bW(T:TT)(t:TypeId)(a:XV)(f:Nat):Option XV:=
 match G0 T t with
 |some ⟨.st fs _,sz,_⟩=>match nth fs f with
  |some (
      off,n,g)=>match a with
   | .ag cs=>match Nat.beq cs.length sz with
    |true=>match g with
     |true=>match KJ cs off n with
      |some r=>some (.ag r)
      |none=>none
     |false=>match nth cs off with
      |some c=>match bV c with
       |true=>some c
       |false=>none
      |none=>none
    |false=>none
   |_=>none
  |none=>none
 |_=>none
def WK(T:TT)(F:List (Nat×Kn))(H:List (Nat×HX))(t:TypeId)(a:XV):RJ:=
 match G0 T t with
 |some ⟨_,n,g⟩=>match a with
  | .el k x sz i j=>match O7 F H k with
   |some (@Kn.mk α inh kv ksz l f g' hg')=>match g with
    |false=>match nth (f (@at' α inh l i)) j with
     |some c=>some (.v c,[0<=i/\i<len l],[.v x kv,.n sz ksz])
     |none=>none
    |true=>match KJ (f (@at' α inh l i)) j n with
     |some r=>match RI r with
      |some r'=>some (.ag r',[0<=i/\i<len l],[.v x kv,.n sz ksz])
      |none=>none
     |none=>none
   |none=>none
  | .bx k b o=>match DO H k with
   |some (.box b' cs _)=>match g with
    |false=>match nth cs o with
     |some c=>match bV c with
      |true=>some (c,[],[.n b b'])
      |false=>none
     |none=>none
    |true=>match KJ cs o n with
     |some r=>some (.ag r,[],[.n b b'])
     |none=>none
   |_=>none
  |_=>none
 |none=>none
def TO(T:TT)(L:XE)(W:Gd)(t:TypeId)(x:Operand)(lo hi:Option Operand):RJ:=
 match G0 T t with
 |some ⟨.str,_,_⟩=>match B5 L W x with
  |some (
      vx,E)=>match U6 vx with
   |some a=>match lo,hi with
    |some y,some z=>match B5 L W y with
     |some (vy,E1)=>match B5 L W z with
      |some (vz,E2)=>match N7 vy with
       |some (_,i)=>match N7 vz with
        |some (_,j)=>some (.v (str (Eng.sub a i j)),[0<=i/\i<=j/\j<=len a],E++(E1++E2))
        |none=>none
       |none=>none
      |none=>none
     |none=>none
    |some y,none=>match B5 L W y with
     |some (vy,E1)=>match N7 vy with
      |some (_,i)=>some (.v (str (A5 a i)),[0<=i/\i<=len a],E++E1)
      |none=>none
     |none=>none
    |none,some z=>match B5 L W z with
     |some (vz,E1)=>match N7 vz with
      |some (_,j)=>some (.v (str (Eng.sub a 0 j)),[0<=j/\j<=len a],E++E1)
      |none=>none
     |none=>none
    |none,none=>none
   |none=>none
  |none=>none
 |_=>none
def bX:XV->Option XV
 | .v (.bool b)=>some (.v (.bool (!b)))
 |_=>none
def bY:XV->Option (XV×List Prop)
 | .v (.int k a)=>some (.v (.int k (-a)),PO k (-a))
 |_=>none
def bZ(T:TT)(op:BinOp)(t:TypeId)(a b:XV):Option XV:=
 match M8 a with
 |some p=>match M8 b with
  |some q=>match G0 T t with
   |some ⟨.bool,_,_⟩=>match op with
    | .eql=>some (.v (.bool (p==q)))
    | .neq=>some (.v (.bool (p != q)))
    |_=>none
   |_=>none
  |none=>none
 |none=>none
def O3(T:TT)(t:TypeId)(a b:XV):Option (XV×List Prop):=
 match G0 T t with
 |some ⟨.str,_,_⟩=>match U6 a with
  |some s=>match N7 b with
   |some (_,i)=>some (.v (.int .u8 (A4 s i)),[0<=i/\i<len s])
   |none=>none
  |none=>none
 |_=>none
def cellsOf:XV->Option (List XV)
 | .ag cs=>some cs
 | .tu _=>none
 |x=>some [x]
def WL(F:List (Nat×Kn))(H:List (Nat×HX)):XV->Option (List Ck)
 | .v u=>match u.oneCell' with
  |true=>some []
  |false=>none
 | .sl k u=>match O7 F H k with
  |some (@Kn.mk α inh kv sz l f g' hg')=>some [.v u kv]
  |none=>none
 | .el _ _ _ _ _=>some []
 | .bx _ _ _=>some []
 |_=>none
def RM(
      F:List (Nat×Kn)) (H:List (Nat×HX)) (L:XE) (W:Gd) (fs:List (Nat×Nat×Bool)):List XV->List (Nat×Operand)->Option (List XV×List Ck)
 |cs,[]=>some (cs,[])
 |cs,(i,x)::ps=>match nth fs i with
  |some (
      off,n,g)=>match B5 L W x with
   |some (
       v,E)=>match g with
    |true=>match v with
     | .ag vs=>match Nat.beq vs.length n with
      |true=>match KK cs off vs with
       |some cs'=>match RM F H L W fs cs' ps with
        |some (r,E')=>some (r,E++E')
        |none=>none
       |none=>none
      |false=>none
     |_=>none
    |false=>match WL F H v with
     |some E1=>match Nat.beq 1 n with
      |true=>match KK cs off [v]with
       |some cs'=>match RM F H L W fs cs' ps with
        |some (r,E')=>some (r,E1++(E++E'))
        |none=>none
       |none=>none
      |false=>none
     |none=>none
   |none=>none
  |none=>none
def cA(T:TT)(F:List (Nat×Kn))(H:List (Nat×HX))(L:XE)(W:Gd)(t:TypeId)(ps:Array (Nat×Operand)):RJ:=
 match G0 T t with
 |some ⟨.st fs zs,_,_⟩=>match ps with
  |⟨l⟩=>match RI zs with
   |some cs=>match RM F H L W fs cs l with
    |some (r,E)=>some (.ag r,[],E)
    |none=>none
   |none=>none
 |_=>none
def cB(a:XV)(i:Nat):Option XV:=
 match a with
 | .tu vs=>match nth vs i with
  |some (.tu _)=>none
  |r=>r
 |_=>none
def AB4:XV->Bool
 | .bx _ _ _=>true
 | .el _ _ _ _ _=>true
 |_=>false
def RN(T:TT)(F:List (Nat×Kn))(H:List (Nat×HX))(L:XE)(W:Gd):Op->RJ
 | .move x=>match B5 L W x with
  |some (v,E)=>some (v,[],E)
  |none=>none
 | .assign x=>match B5 L W x with
  |some (v,E)=>some (v,[],E)
  |none=>none
 | .pick c x y=>bP L W c x y
 | .binOp op t x y _=>match IA L W x y with
  |some (a,b,E)=>match bO op a b with
   |some (v,p)=>some (v,p,E)
   |none=>match bZ T op t a b with
    |some v=>some (v,[],E)
    |none=>none
  |none=>none
 | .unOp op _ x=>match B5 L W x with
  |some (a,E)=>match op with
   | .not=>match bX a with
    |some v=>some (v,[],E)
    |none=>none
   | .neg=>match bY a with
    |some (v,p)=>some (v,p,E)
    |none=>none
   |_=>none
  |none=>none
 | .convert s t x=>match B5 L W x with
  |some (a,E)=>match bQ T s t a with
   |some (v,p)=>some (v,p,E)
   |none=>none
  |none=>none
 | .slice t x lo hi none=>TO T L W t x lo hi
 | .fieldAddr t x f=>match B5 L W x with
  |some (a,E)=>match bU T t a f with
   |some v=>some (v,[],E)
   |none=>none
  |none=>none
 | .field t x f=>match B5 L W x with
  |some (a,E)=>match bW T t a f with
   |some v=>some (v,[],E)
   |none=>none
  |none=>none
 | .indexAddr t x y=>match IA L W x y with
  |some (a,b,E)=>match bT T F H t a b with
   |some (v,p,E')=>some (v,p,E++E')
   |none=>none
  |none=>none
 | .index t x y=>match IA L W x y with
  |some (a,b,E)=>match O3 T t a b with
   |some (v,p)=>some (v,p,E)
   |none=>none
  |none=>none
 | .load t x=>match B5 L W x with
  |some (a,E)=>match WK T F H t a with
   |some (v,p,E')=>some (v,p,E++E')
   |none=>none
  |none=>none
 | .build t ps=>cA T F H L W t ps
 | .extract x i=>match B5 L W x with
  |some (a,E)=>match cB a i with
   |some v=>some (v,[],E)
   |none=>none
  |none=>none
 | .call ⟨.builtin .len,⟨[x]⟩,⟨[t]⟩⟩=>match B5 L W x with
  |some (a,E)=>match bS T F H t a with
   |some (v,E')=>some (v,[],E++E')
   |none=>none
  |none=>none
 | .nilCheck x=>match B5 L W x with
  |some (a,E)=>match AB4 a with
   |true=>some (a,[],E)
   |false=>none
  |none=>none
 |_=>none
end Go.Eng
