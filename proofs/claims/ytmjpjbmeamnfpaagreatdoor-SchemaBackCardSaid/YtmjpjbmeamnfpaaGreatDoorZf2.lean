/- Lemmas for the card. -/
import Derived.Test.YtmjpjbmeamnfpaaGreatDoorZf1
import Derived.Maps.RangeRun
set_option linter.unusedVariables false
set_option linter.unusedSimpArgs false
namespace Go.Eng
open Go.RowKit
theorem wrap_u8{x:Int}(h:0<=x/\x<=255):IntKind.u8.wrap x=x:=by
 simp only[IntKind.wrap,IntKind.bits,IntKind.signed];simp;omega
theorem wrap_i32{x:Int}(h: -2147483648<=x/\x<=2147483647):IntKind.i32.wrap x=x:=by
 simp only[IntKind.wrap,IntKind.bits,IntKind.signed];simp;omega
theorem wrap_u32{x:Int}(h:0<=x/\x<=4294967295):IntKind.u32.wrap x=x:=by
 simp only[IntKind.wrap,IntKind.bits,IntKind.signed];simp;omega
theorem wrap_u64{x:Int}(h:0<=x/\x<=18446744073709551615):IntKind.u64.wrap x=x:=by
 simp only[IntKind.wrap,IntKind.bits,IntKind.signed];simp;omega
section pv
variable {P:Program} {C:World->Prop} {L:Env} {W:Bool} {d:Option Tmp} {ty:TypeId} {ps:String} {af:Array Edge} {gd:Option (Nat×Bool)}
theorem PV.sX {t t':TypeId}{x y:Operand}{a b:Bool}(ht:P.underlying t=some .bool)(hx:A8 L W x (.bool a))(hy:A8 L W y (.bool b)):PV P C L W ⟨d,.binOp .eql t x y t',ty,ps,af,gd⟩ (.bool (a==b)):=
 .bin hx hy λ _ w _=>by
  have:(Op.equalIn Op.maxDepth t (.bool a) (.bool b)).run P w= .ok (a==b) w:=by rw[YM];exact YN ht w 9999 a b
  simp[go_sem,binOp,Op.equal,this]
theorem PV.sY {t t':TypeId}{x y:Operand}{a b:Bool}(ht:P.underlying t=some .bool)(hx:A8 L W x (.bool a))(hy:A8 L W y (.bool b)):PV P C L W ⟨d,.binOp .neq t x y t',ty,ps,af,gd⟩ (.bool (a != b)):=
 .bin hx hy λ _ w _=>by
  have:(Op.equalIn Op.maxDepth t (.bool a) (.bool b)).run P w= .ok (a==b) w:=by rw[YM];exact YN ht w 9999 a b
  simp[go_sem,binOp,Op.equal,this,bne]
end pv
def AQ(x:Int):List Value:=[.int .u8 x]
theorem YV(x:Int):(AQ x).length=1:=rfl
theorem N4(x:Int): ∀u∈AQ x,u.oneCell'=true:=by intro u hu;simp[AQ]at hu;subst hu;rfl
def toStr(l:List Int):A1:=l.map (λ x=>UInt8.ofNat x.toNat)
theorem foldl_push(l:List Int): ∀r:ByteArray,l.foldl (λ r n=>r.push (UInt8.ofNat n.toNat)) r=⟨r.data++(toStr l).toArray⟩:=by
 induction l with
 |nil=>intro r;simp[toStr]
 |cons a l ih=>intro r;rw[List.foldl_cons,ih];simp[toStr,ByteArray.push]
theorem SJ(l:List Int):l.flatMap AQ=l.map (Value.int .u8):=by
 induction l with
 |nil=>rfl
 |cons a l ih=>rw[List.flatMap_cons,ih];rfl
theorem sZ{P:Program}{w:World}{M:Mem}(hM:Sat w M){l:List Int}{v:Value}(h:Sl M 1 l.length v (l.flatMap AQ)){src dst e:TypeId}(hs:P.underlying src=some (.slice e))(he:P.underlying e=some (.int .u8))(hd:P.underlying dst=some .string):
  (convert src dst v).run P w= .ok (str (toStr l)) w:=by
 by_cases hl:0<l.length
 ·obtain⟨cap,hv,h1,h2,h3⟩:=h.at hl
  have hc: ∀j v',(l.map (Value.int .u8))[j]? =some v'->w.cell? ((⟨sb v,so v,none⟩:Addr).add j)=some v':=by
   intro j v' hj
   rw[H8]
   refine hM.cell _ _ _ ?_
   rw[<-SJ]at hj
   have hjl:j<(l.flatMap AQ).length:=by
    rcases Nat.lt_or_ge j (l.flatMap AQ).length with hh|hh
    ·exact hh
    ·rw[List.getElem?_eq_none hh]at hj;cases hj
   rw[h3 j hjl];exact hj
  have hload:=run_loadCells_list (P:=P) w ⟨sb v,so v,none⟩ (l.map (Value.int .u8)) hc
  rw[List.length_map]at hload
  generalize sb v=b at*
  generalize so v=o at*
  subst hv
  rw[run_convert_bytes_string w src dst e (some ⟨b,o,none⟩) l.length cap hs he hd,run_bytesToString w ⟨b,o,none⟩ l.length cap l hload,foldl_push]
  simp[str]
 ·have hl0:l=[]:=by cases l with|nil=>rfl|cons a b=>simp at hl
  subst hl0
  obtain⟨p,cap,hv,_⟩:=h.val
  subst hv
  rw[run_convert_bytes_string w src dst e p _ cap hs he hd]
  cases p<;>rfl
theorem PV.N5 {P:Program}{C:World->Prop}{L:Env}{W:Bool}{d:Option Tmp}{ty:TypeId}{ps:String}{af:Array Edge}{gd:Option (Nat×Bool)}{w0 w:World}{M0 M:Mem}{Hs:List HO}{src dst e:TypeId}{x:Operand}{l:List Int}{v:Value}
  (hS:St w0 M0 w M Hs) (hC: ∀w',C w'->Ext w w') (h:Sl M 1 l.length v (l.flatMap AQ)) (hx:A8 L W x v) (hs:P.underlying src=some (.slice e)) (he:P.underlying e=some (.int .u8)) (hd:P.underlying dst=some .string):PV P C L W ⟨d,.convert src dst x,ty,ps,af,gd⟩ (str (toStr l)):=by
 intro a N hsl hW w' hw'
 have:=sZ (P:=P) (hS.ext (hC w' hw')).sat h hs he hd
 simp only[execOp,hx a N hsl hW]
 rw[Sem.run_bind,this];rfl
structure KV where
 key:Int
 val:Value
 born:Nat
def KV.CS (k:IntKind)(p:KV):MapEntry:= { key:=.int k p.key,val:=p.val,born:=p.born}
def AK(k:IntKind)(l:List KV)(clock:Nat):Obj:=.map ⟨l.map (KV.CS k)⟩ clock
def BP:List KV->Int->Option Value
 |[],_=>none
 |p::l,x=>if x==p.key then some p.val else BP l x
def HQ:List KV->Int->Value->Option (List KV)
 |[],_,_=>none
 |p::l,x,v=>if x==p.key then some (⟨x,v,p.born⟩::l)else(HQ l x v).map (p:: ·)
def FM(l:List KV)(c:Nat)(x:Int)(v:Value):List KV:=match HQ l x v with|some l'=>l'|none=>l++[⟨x,v,c⟩]
def HR(l:List KV)(c:Nat)(x:Int)(v:Value):Nat:=match HQ l x v with|some _=>c|none=>c+1
def HS:List KV->Int->List KV
 |[],_=>[]
 |p::l,x=>if x==p.key then l else p::HS l x
def GX:List KV->Int->Nat->Option (Nat×Value)
 |[],_,_=>none
 |p::l,x,i=>if x==p.key then some (i,p.val)else GX l x (i+1)
theorem fM(k:IntKind)(x:Int): ∀(l:List KV) (i:Nat),Instr.findNow (.int k) (.int k x) (l.map (KV.CS k)) i=some (GX l x i)
 |[],_=>rfl
 |p::l,i=>by
  simp only[List.map_cons,Instr.findNow,KV.CS,Instr.sameNow,if_true,GX]
  by_cases h:(x==p.key)=true
  ·rw[h];rfl
  ·rw[Bool.not_eq_true]at h;rw[h];exact fM k x l (i+1)
theorem fN(x:Int): ∀(l:List KV) (i:Nat),(GX l x i).map (·.2)=BP l x
 |[],_=>rfl
 |p::l,i=>by
  simp only[GX,BP];split
  ·rfl
  ·exact fN x l (i+1)
theorem fO(k:IntKind)(x:Int)(v:Value): ∀(l:List KV) (i:Nat),(GX l x i=none/\HQ l x v=none)\/ ∃j u p l',GX l x i=some (i+j,u)/\l[j]? =some p/\x=p.key/\HQ l x v=some l'/\l'=l.modify j (λ p=>⟨x,v,p.born⟩)
 |[],_=>.inl ⟨rfl,rfl⟩
 |p::l,i=>by
  by_cases h:(x==p.key)=true
  ·refine .inr ⟨0,p.val,p,⟨x,v,p.born⟩::l,?_,rfl,by simpa using h,?_,by simp⟩
   ·simp only[GX,h,if_true];rfl
   ·simp only[HQ,h,if_true]
  ·rcases fO k x v l (i+1)with⟨h1,h2⟩|⟨j,u,q,l',h1,h2,h3,h4,h5⟩
   ·refine .inl ⟨?_,?_⟩
    ·simp only[GX,h];exact h1
    ·simp only[HQ,h,h2];rfl
   ·refine .inr ⟨j+1,u,q,p::l',?_,by simpa using h2,h3,?_,?_⟩
    ·simp only[GX,h];rw[show i+(j+1)=i+1+j from by omega];exact h1
    ·simp only[HQ,h,h4];rfl
    ·subst h5;simp
theorem fP(x:Int): ∀(l:List KV) (i:Nat),(GX l x i=none/\HS l x=l)\/ ∃j u,GX l x i=some (i+j,u)/\j<l.length/\HS l x=l.eraseIdx j
 |[],_=>.inl ⟨rfl,rfl⟩
 |p::l,i=>by
  by_cases h:(x==p.key)=true
  ·exact .inr ⟨0,p.val,by simp only[GX,h,if_true];rfl,by simp,by simp only[HS,h,if_true];rfl⟩
  ·rcases fP x l (i+1)with⟨h1,h2⟩|⟨j,u,h1,h2,h3⟩
   ·exact .inl ⟨by simp only[GX,h];exact h1,by simp only[HS,h,h2];rfl⟩
   ·refine .inr ⟨j+1,u,?_,by simp;omega,?_⟩
    ·simp only[GX,h];rw[show i+(j+1)=i+1+j from by omega];exact h1
    ·simp only[HS,h,h3];simp
theorem run_checkKey{P:Program}{t:TypeId}{k:IntKind}(h:P.underlying t=some (.int k))(b:Bool)(x:Int)(w:World):(Instr.checkKey b 10000 t (.int k x)).run P w= .ok () w:=by
 show(Instr.checkKey b (9999+1) t (.int k x)).run P w= .ok () w
 unfold Instr.checkKey
 rw[Sem.run_bind,run_underlying h];rfl
theorem run_findKey{P:Program}{t:TypeId}{k:IntKind}(h:P.underlying t=some (.int k))(x:Int)(l:List KV)(w:World):(Instr.findKey t (.int k x) (l.map (KV.CS k))).run P w= .ok (GX l x 0) w:=by
 simp only[Instr.findKey,Sem.run_bind,run_underlying h,Result.andThen_ok,fM];rfl
theorem YW{P:Program}{w:World}{b:Nat}{k:IntKind}{l:List KV}{c:Nat}(h:w.heap[b]? =some (AK k l c)):(getObj b).run P w= .ok (AK k l c) w:=by
 simp[getObj,Sem.run,h,AK]
theorem V1{P:Program}{w:World}{b:Nat}{k:IntKind}{l:List KV}{c:Nat}(h:w.heap[b]? =some (AK k l c))(o':Obj):(setObj b o').run P w= .ok () (FL w b o'):=by
 simp[setObj,Sem.run,h,FL,AK]
theorem YX{α β:Type}(g:α->β)(f:α->α)(f':β->β)(h: ∀x,f' (g x)=g (f x)): ∀(l:List α) (j:Nat),(l.map g).modify j f'=(l.modify j f).map g
 |[],j=>by simp
 |a::l,0=>by simp[h]
 |a::l,j+1=>by simp[YX g f f' h l j]
theorem fQ{P:Program}{w:World}{b:Nat}{k:IntKind}{l:List KV}{c:Nat}{t kt e:TypeId}{z:Value}{x:Int}{ok:Bool}(ht:P.underlying t=some (.map kt e))(hk:P.underlying kt=some (.int k))(hz: ∀w,(zeroValue e).run P w= .ok z w)
  (h:w.heap[b]? =some (AK k l c)):(Instr.lookup t (.map (some b)) (.int k x) ok).run P w= .ok (if ok then .tuple #[(BP l x).getD z,.bool (BP l x).isSome]else(BP l x).getD z) w:=by
 simp only[Instr.lookup,Sem.run_bind,run_underlying ht,Result.andThen_ok,YW h,AK,Sem.run_pure,run_checkKey hk,run_findKey hk]
 have hg:=fN x l 0
 cases hf:GX l x 0 with
 |none=>rw[hf]at hg;rw[<-hg];simp[Sem.run_bind,hz]
 |some q=>rw[hf]at hg;rw[<-hg];simp
theorem tA{P:Program}{w:World}(k:IntKind)(x:Int):(Instr.keyThatStays (.int k x) (.int k x)).run P w= .ok (.int k x) w:=by
 simp[Instr.keyThatStays,Instr.sameBits]
theorem tC{P:Program}{w:World}{b:Nat}{k:IntKind}{l:List KV}{c:Nat}{t kt e:TypeId}{x:Int}{v:Value}(ht:P.underlying t=some (.map kt e))(hk:P.underlying kt=some (.int k))
  (h:w.heap[b]? =some (AK k l c)):(Instr.mapUpdate t (.map (some b)) (.int k x) v).run P w= .ok () (FL w b (AK k (FM l c x v) (HR l c x v))):=by
 simp only[Instr.mapUpdate,Sem.run_bind,run_underlying ht,Result.andThen_ok,YW h,AK,run_checkKey hk,run_findKey hk]
 rcases fO k x v l 0 with⟨h1,h2⟩|⟨j,u,p,l',h1,h2,h3,h4,h5⟩
 ·rw[h1]
  simp only[FM,HR,h2]
  rw[V1 h];simp[KV.CS]
 ·rw[h1]
  have e1:((l.map (KV.CS k)).toArray[0+j]?)=some (KV.CS k p):=by simp[h2]
  have e2:(Array.mk (l.map (KV.CS k)))[0+j]? =some (KV.CS k p):=e1
  simp only[Sem.run_bind,e2,Option.map_some,Option.getD_some]
  rw[show(KV.CS k p).key= .int k x from by rw[h3];rfl,tA]
  simp only[Result.andThen_ok,FM,HR,h4]
  rw[V1 h]
  congr 3
  subst h5
  rw[Nat.zero_add]
  apply Array.ext'
  rw[Array.toList_modify]
  exact YX (KV.CS k) _ _ (λ x=>rfl) l j
theorem fR{α β:Type}(g:α->β): ∀(l:List α) (j:Nat),(l.map g).eraseIdx j=(l.eraseIdx j).map g
 |[],_=>by simp
 |a::l,0=>by simp
 |a::l,j+1=>by simp[fR g l j]
theorem tD{P:Program}{w:World}{b:Nat}{k:IntKind}{l:List KV}{c:Nat}{t kt e u ty:TypeId}{x:Int}(ht:P.underlying t=some (.map kt e))(hk:P.underlying kt=some (.int k))
  (h:w.heap[b]? =some (AK k l c)):(Builtin.delete_ #[t,u] ty #[.map (some b),.int k x]).run P w= .ok (.tuple #[]) (FL w b (AK k (HS l x) c)):=by
 unfold Builtin.delete_
 rw[show(#[t,u][0]?)=some t from rfl,show(#[Value.map (some b),Value.int k x][0]?)=some (Value.map (some b))from rfl,show(#[Value.map (some b),Value.int k x][1]?)=some (Value.int k x)from rfl]
 simp only[Sem.run_bind,run_underlying ht,Result.andThen_ok,YW h]
 simp only[AK,Sem.run_bind,run_checkKey hk,Result.andThen_ok,run_findKey hk]
 rcases fP x l 0 with⟨h1,h2⟩|⟨j,v,h1,h2,h3⟩
 ·rw[h1,h2]
  simp only[Sem.run_bind]
  rw[V1 h];rfl
 ·rw[h1,h3]
  simp only[Sem.run_bind]
  rw[V1 h]
  simp only[Result.andThen_ok,Sem.run_pure]
  congr 3
  rw[Nat.zero_add]
  apply Array.ext'
  rw[Array.eraseIdxIfInBounds_eq]
  simp[h2]
  exact fR _ l j
section rl
variable {P:Program} {ops:Array Oper} {Q:Exit->Act->World->Prop} {N:Nat} {rest:List Oper} {L:Env} {w0 w:World} {M0 M:Mem} {Hs:List HO} {d:Nat} {ty:TypeId} {ps:String} {af:Array Edge}
theorem RL.makeMap (k:IntKind){t:TypeId}(hS:St w0 M0 w M Hs)(hd:Nat.blt d N=true)
  (h: ∀w' b,St w0 M0 w' M (.raw b (AK k [] 0)::Hs)->RL P ops Q N rest ((d,true,.map (some b))::L) w'):RL P ops Q N (⟨some d,.makeMap t none,ty,ps,af,none⟩::rest) L w:=by
 intro a hs
 refine wpList_plain U λ K hK=>?_
 have key:(execOp a.eval ⟨some d,.makeMap t none,ty,ps,af,none⟩).run P w= .ok (.value (.map (some w.heap.size))) (w.alloc (.map #[] 0)):=rfl
 simp only[Oper.wp,key,Oper.upon_value]
 exact hK _ _ (h _ _ (hS.P4 (AK k [] 0)) _ (hs.put hd true _))
theorem RL.mapUpdate {t kt e:TypeId}{k:IntKind}{m x y:Operand}{i b c c':Nat}{l l':List KV}{n:Int}{v:Value}{Hs':List HO}(ins:Bool)(hS:St w0 M0 w M Hs)(hi:Hs[i]? =some (.raw b (AK k l c)))(hm:A8 L true m (.map (some b)))(hx:A8 L true x (.int k n))(hy:A8 L true y v)
  (ht:P.underlying t=some (.map kt e)) (hk:P.underlying kt=some (.int k)) (hl:FM l c n v=l') (hc:HR l c n v=c') (hHs:Hs.set i (.raw b (AK k l' c'))=Hs')
  (h: ∀w',St w0 M0 w' M Hs'->RL P ops Q N rest L w'):RL P ops Q N (⟨none,if ins then .insert t m x y else .mapUpdate t m x y,ty,ps,af,none⟩::rest) L w:=by
 intro a hs
 refine wpList_plain U λ K hK=>?_
 have hb:=(hS.obj hi).2.1
 have key:(execOp a.eval ⟨none,if ins then .insert t m x y else .mapUpdate t m x y,ty,ps,af,none⟩).run P w= .ok .skip (FL w b (AK k l' c')):=by
  have:=tC (P:=P) (x:=n) (v:=v) ht hk hb
  cases ins<;>simp only[execOp,hm a N hs rfl,hx a N hs rfl,hy a N hs rfl,Bool.false_eq_true,if_true,if_false]<;>rw[Sem.run_bind,this,hl,hc]<;>rfl
 simp only[Oper.wp,key,Oper.upon_skip]
 exact hK _ _ (h _ (hHs▸hS.QK hi _) _ hs)
theorem RL.delete {t u kt e:TypeId}{k:IntKind}{m x:Operand}{i b c:Nat}{l l':List KV}{n:Int}{Hs':List HO}(hS:St w0 M0 w M Hs)(hi:Hs[i]? =some (.raw b (AK k l c)))(hm:A8 L true m (.map (some b)))(hx:A8 L true x (.int k n))
  (ht:P.underlying t=some (.map kt e)) (hk:P.underlying kt=some (.int k)) (hl:HS l n=l') (hHs:Hs.set i (.raw b (AK k l' c))=Hs')
  (h: ∀w',St w0 M0 w' M Hs'->RL P ops Q N rest L w'):RL P ops Q N (⟨none,.call ⟨.builtin .delete,#[m,x],#[t,u]⟩,ty,ps,af,none⟩::rest) L w:=by
 intro a hs
 refine wpList_plain U λ K hK=>?_
 have hb:=(hS.obj hi).2.1
 have key:(execOp a.eval ⟨none,.call ⟨.builtin .delete,#[m,x],#[t,u]⟩,ty,ps,af,none⟩).run P w= .ok (.value (.tuple #[])) (FL w b (AK k l' c)):=by
  have:=tD (P:=P) (x:=n) (u:=u) (ty:=ty) ht hk hb
  simp only[execOp,resolve,invoke,builtin,List.map_toArray,List.map_cons,List.map_nil,hm a N hs U,hx a N hs U,Sem.run_bind,Sem.run_pure,Result.andThen_ok,this,hl]
 simp only[Oper.wp,key,Oper.upon_value]
 exact hK _ _ (h _ (hHs▸hS.QK hi _) _ hs)
theorem RL.tE {t kt e:TypeId}{k:IntKind}{x:Operand}{i b c:Nat}{l:List KV}(hS:St w0 M0 w M Hs)(hi:Hs[i]? =some (.raw b (AK k l c)))(hx:A8 L true x (.map (some b)))(ht:P.underlying t=some (.map kt e))(hd:Nat.blt d N=true)
  (h: ∀w' r,St w0 M0 w' M (.raw r (.mapIter (some b) c #[] c)::Hs)->RL P ops Q N rest ((d,true,.pointer (some ⟨r,0,none⟩))::L) w'):RL P ops Q N (⟨some d,.range t x,ty,ps,af,none⟩::rest) L w:=by
 intro a hs
 refine wpList_plain U λ K hK=>?_
 have hb:=(hS.obj hi).2.1
 have key:(execOp a.eval ⟨some d,.range t x,ty,ps,af,none⟩).run P w= .ok (.value (.pointer (some ⟨w.heap.size,0,none⟩))) (w.alloc (.mapIter (some b) c #[] c)):=by
  simp only[execOp,hx a N hs U];rw[Sem.run_bind,run_range_map w t kt e b _ _ ht hb];rfl
 simp only[Oper.wp,key,Oper.upon_value]
 exact hK _ _ (h _ _ (hS.P4 _) _ (hs.put hd true _))
theorem RL.tF {k:IntKind}{x:Operand}{i j b r c since c0:Nat}{seen:Array Nat}{l:List KV}(hS:St w0 M0 w M Hs)(hi:Hs[i]? =some (.raw b (AK k l c)))(hj:Hs[j]? =some (.raw r (.mapIter (some b) since seen c0)))(hx:A8 L true x (.pointer (some ⟨r,0,none⟩)))
  (hold: ∀p∈l,p.born<since) (hsc:since<=c0) (hd:Nat.blt d N=true)
  (h1: ∀p∈l,¬seen.contains p.born=true-> ∀w',St w0 M0 w' M (Hs.set j (.raw r (.mapIter (some b) since (seen.push p.born) c)))->RL P ops Q N rest ((d,true,.tuple #[.bool true,.int k p.key,p.val])::L) w')
  (h2:(∀p∈l,seen.contains p.born=true)->RL P ops Q N rest ((d,true,.tuple #[.bool false])::L) w):RL P ops Q N (⟨some d,.next x false,ty,ps,af,none⟩::rest) L w:=by
 intro a hs
 refine wpList_plain U λ K hK=>?_
 have hb:=(hS.obj hi).2.1
 have hr:=(hS.obj hj).2.1
 rcases run_next_at (P:=P) w ty r b since c0 seen ⟨l.map (KV.CS k)⟩ c hr hb (by intro x hx;simp only[List.mem_map]at hx;obtain⟨p,hp,rfl⟩:=hx;exact hold p hp) hsc with⟨he,hrun⟩|⟨en,hen,w1,hw1,hrun⟩
 ·have key:(execOp a.eval ⟨some d,.next x false,ty,ps,af,none⟩).run P w= .ok (.value (.tuple #[.bool false])) w:=by
   simp only[execOp,hx a N hs U];rw[Sem.run_bind,hrun];rfl
  simp only[Oper.wp,key,Oper.upon_value]
  refine hK _ _ (h2 ?_ _ (hs.put hd true _))
  intro p hp
  by_cases hc:seen.contains p.born=true
  ·exact hc
  ·exfalso
   have:(leftOf ⟨l.map (KV.CS k)⟩ seen).size=0:=he
   unfold leftOf at this
   rw[Array.size_eq_zero_iff,Array.filter_eq_empty_iff]at this
   have:=this (KV.CS k p) (by simp only[List.mem_toArray,Array.mem_def,List.mem_map];exact⟨p,hp,rfl⟩)
   apply this;show(!seen.contains p.born)=true
   simpa using hc
 ·unfold leftOf at hen
  simp only[Array.toList_filter,List.mem_filter,List.mem_map,Bool.not_eq_true']at hen
  obtain⟨⟨p,hp,rfl⟩,hns⟩:=hen
  have key:(execOp a.eval ⟨some d,.next x false,ty,ps,af,none⟩).run P w= .ok (.value (.tuple #[.bool true,.int k p.key,p.val])) (FL w1 r (.mapIter (some b) since (seen.push p.born) c)):=by
   simp only[execOp,hx a N hs U];rw[Sem.run_bind,hrun];rfl
  simp only[Oper.wp,key,Oper.upon_value]
  have hS1:St w0 M0 w1 M Hs:=by rcases hw1 with rfl|rfl;exact hS;exact hS.ext (Ext.drew _)
  exact hK _ _ (h1 p hp (by show ¬seen.contains p.born=true;have:seen.contains p.born=false:=hns;rw[this];simp) _ (hS1.QK hj _) _ (hs.put hd true _))
end rl
section pv
variable {P:Program} {C:World->Prop} {L:Env} {W:Bool} {d:Option Tmp} {ty:TypeId} {ps:String} {af:Array Edge} {gd:Option (Nat×Bool)} {w0 w:World} {M0 M:Mem} {Hs:List HO}
theorem PV.entry {k:IntKind}{x:Operand}{i j b r c since:Nat}{seen:Array Nat}{l:List KV}{p:KV}(hS:St w0 M0 w M Hs)(hC: ∀w',C w'->Ext w w')(hi:Hs[i]? =some (.raw b (AK k l c)))(hj:Hs[j]? =some (.raw r (.mapIter (some b) since (seen.push p.born) c)))(hx:A8 L W x (.pointer (some ⟨r,0,none⟩)))
  (hp:p∈l) (hn:(l.map (·.born)).Nodup):PV P C L W ⟨d,.entry x,ty,ps,af,gd⟩ (.tuple #[.int k p.key,p.val]):=by
 intro a N hs hW w' hw'
 have hS':=hS.ext (hC w' hw')
 have hb:=(hS'.obj hi).2.1
 have hr:=(hS'.obj hj).2.1
 have:=run_entry_at (P:=P) w' r b since seen ⟨l.map (KV.CS k)⟩ c (KV.CS k p) hr hb (List.mem_map.2 ⟨p,hp,rfl⟩) (by simpa[List.map_map,Function.comp_def,KV.CS]using hn)
 simp only[execOp,hx a N hs hW];rw[Sem.run_bind,this];rfl
theorem PV.lookup {k:IntKind}{t kt e:TypeId}{x y:Operand}{i b c:Nat}{l:List KV}{n:Int}{z v:Value}(hS:St w0 M0 w M Hs)(hC: ∀w',C w'->Ext w w')(hi:Hs[i]? =some (.raw b (AK k l c)))(hx:A8 L W x (.map (some b)))(hy:A8 L W y (.int k n))
  (ht:P.underlying t=some (.map kt e)) (hk:P.underlying kt=some (.int k)) (hz: ∀w,(zeroValue e).run P w= .ok z w) (hv:(BP l n).getD z=v):PV P C L W ⟨d,.lookup t x y false,ty,ps,af,gd⟩ v:=by
 intro a N hs hW w' hw'
 have hb:=((hS.ext (hC w' hw')).obj hi).2.1
 have:=fQ (P:=P) (x:=n) (ok:=false) ht hk hz hb
 simp only[execOp,hx a N hs hW,hy a N hs hW];rw[Sem.run_bind,this,<-hv];rfl
theorem PV.V2 {k:IntKind}{t kt e:TypeId}{x y:Operand}{i b c:Nat}{l:List KV}{n:Int}{z v:Value}{q:Bool}(hS:St w0 M0 w M Hs)(hC: ∀w',C w'->Ext w w')(hi:Hs[i]? =some (.raw b (AK k l c)))(hx:A8 L W x (.map (some b)))(hy:A8 L W y (.int k n))
  (ht:P.underlying t=some (.map kt e)) (hk:P.underlying kt=some (.int k)) (hz: ∀w,(zeroValue e).run P w= .ok z w) (hv:(BP l n).getD z=v) (hq:(BP l n).isSome=q):PV P C L W ⟨d,.lookup t x y true,ty,ps,af,gd⟩ (.tuple #[v,.bool q]):=by
 intro a N hs hW w' hw'
 have hb:=((hS.ext (hC w' hw')).obj hi).2.1
 have:=fQ (P:=P) (x:=n) (ok:=true) ht hk hz hb
 simp only[execOp,hx a N hs hW,hy a N hs hW];rw[Sem.run_bind,this,<-hv,<-hq];rfl
end pv
section ra
variable {P:Program} {md:Region.Mode} {ops:Array Oper} {Q:Exit->Act->World->Prop} {N f:Nat} {listed:Array Bool} {L:Env} {w:World}
def Qn(K:Act->World->Prop)(Q:Exit->Act->World->Prop):Exit->Act->World->Prop
 | .normal,a,w=>K a w
 |e,a,w=>Q e a w
def RA(P:Program)(md:Region.Mode)(ops:Array Oper)(Q:Exit->Act->World->Prop)(N f:Nat)(listed:Array Bool)(L:Env)(w:World):Prop:= ∀a,AJ a N L->wpAny P md ops Q f listed a w
theorem fS{o:Oper}{a:Act}{K K':Act->World->Prop}: ∀r:Result Next,o.upon P a K' (Qn K Q) r->o.upon P a K' Q r:=by
 intro r h
 cases r with
 |ok n w'=>
  cases n with
  |enter f args=>
   refine Calls.mono h ?_
   intro e w'' he
   cases e<;>exact he
  |_=>exact h
 |halt x w'=>cases x<;>exact h
theorem RA.of {is:List Nat}(hr:Region.ready md ops listed=is)(hne:is.isEmpty=false)(h: ∀i∈is,RL P ops (Qn (λ a' w'=>wpAny P md ops Q f (listed.setIfInBounds i true) a' w') Q) N (ops[i]?).toList L w):RA P md ops Q N (f+1) listed L w:=by
 intro a hs
 refine⟨λ h0=>?_,λ i hi=>?_⟩
 ·rw[hr]at h0;subst h0;cases hne
 ·rw[hr]at hi
  have h1:=h i hi a hs
  unfold wpOp
  cases ho:ops[i]? with
  |none=>rw[ho]at h1;exact h1
  |some o=>
   rw[ho]at h1
   simp only[Option.toList_some]at h1
   unfold wpList at h1
   dsimp only
   split
   ·rename_i hw
    rw[if_pos hw]at h1
    rcases h1 with h1|⟨h1,h2⟩
    ·exact .inl (fS _ h1)
    ·exact .inr ⟨h1,h2⟩
   ·rename_i hw
    rw[if_neg hw]at h1;exact h1
theorem RA.next {K:Act->World->Prop}(h: ∀a,AJ a N L->K a w): ∀a,AJ a N L->(Qn K Q) .normal a w:=h
theorem Al {K:Act->World->Prop}(h: ∀a,AJ a N L->K a w): ∀a,AJ a N L->(Qn K Q) .normal a w:=h
theorem RA.nil (hr:Region.ready md ops listed=[])(h: ∀a,AJ a N L->Q .normal a w):RA P md ops Q N 0 listed L w:=λ a hs=>⟨hr,h a hs⟩
theorem RA.one {i:Nat}(hr:Region.ready md ops listed=[i])(h:RL P ops (Qn (λ a' w'=>wpAny P md ops Q f (listed.setIfInBounds i true) a' w') Q) N (ops[i]?).toList L w):RA P md ops Q N (f+1) listed L w:=
 RA.of hr U (by simpa using h)
theorem RA.two {i j:Nat}(hr:Region.ready md ops listed=[i,j])(h1:RL P ops (Qn (λ a' w'=>wpAny P md ops Q f (listed.setIfInBounds i true) a' w') Q) N (ops[i]?).toList L w)
  (h2:RL P ops (Qn (λ a' w'=>wpAny P md ops Q f (listed.setIfInBounds j true) a' w') Q) N (ops[j]?).toList L w):RA P md ops Q N (f+1) listed L w:=
 RA.of hr U (by simpa using⟨h1,h2⟩)
theorem CW.tG {w0:World}{M0 M:Mem}{Hs:List HO}{id:Nat}{l:List Oper}(hS:St w0 M0 w M Hs)(hm:P.follows .mixedOrders=true)
  (h: ∀w1,St w0 M0 w1 M Hs->RA P .any l.toArray Q N l.length (Array.replicate l.length false) L w1):CW P (.region id l.toArray true) Q N L w:=by
 intro a hs
 refine wp_region_any hm ?_
 have:=h _ (hS.ext (Ext.drew w)) a hs
 simpa using this
end ra
open Go.RowKit Go.Lib
theorem tH{P:Program}(w:World)(base:Nat)(t u ty e:TypeId)(i:TypeInfo)(ht:P.underlying t=some (.slice e))(hu:P.underlying u=some .string)(hi:P.info? e=some i)(hz:i.zero=some (.int .u8 0))(hsize:i.size=1)(hby:i.bytes=1)
  (v:Value) (n:Nat) (xs:List Value) (hown:w.ownsRow base e 1 v n xs) (s:ByteArray) (h63:n+s.size<=maxLen) (hbytes:n+s.size<=140737488355328) (hbase:base<=w.heap.size):
  ∃v' w',(Builtin.append_ #[t,u] ty #[v,.string s]).run P w= .ok v' w'/\w'.ownsRow base e 1 v' (n+s.size) (xs++strCells s)/\Below base w w'/\
   (∀k,k<w.heap.size->v.ownBlock≠some k->w'.heap[k]? =w.heap[k]?)/\(∀g,v.ownBlock=some g-> ∀o,o<xs.length->w'.cell? ⟨g,o,none⟩=w.cell? ⟨g,o,none⟩)/\
   (v'.ownBlock=v.ownBlock\/ ∃b,v'.ownBlock=some b/\w.heap.size<=b):=by
 have hsmall:n+s.size<=9223372036854775807:=by simp only[maxLen]at h63;omega
 have hxl:xs.length=n:=by simpa using hown.1
 have hlen:(xs++strCells s).length=(n+s.size)*1:=by rw[List.length_append,hxl,strCells_length,Nat.mul_one]
 have grown: ∀(old:Nat),
   (w.drew.alloc (.cells (xs.toArray++(strCells s).toArray++Builtin.zeroCells (Value.int .u8 0).cells (grownCap w (n+s.size) old e-(n+s.size))) e)).ownsRow base e 1
    (.slice (some ⟨w.heap.size,0,none⟩) (n+s.size) (grownCap w (n+s.size) old e)) (n+s.size) (xs++strCells s):=by
  intro old
  have hge:=grownCap_ge w (n+s.size) old e
  have hcm:grownCap w (n+s.size) old e<=maxLen:=grownCap_le_maxLen w (n+s.size) old e h63
  refine⟨hlen,.inr ⟨w.heap.size,_,_,rfl,hbase,heap_alloc_new w.drew _,hge,hcm,?_,?_⟩⟩
  ·have hz1:(Value.int IntKind.u8 0).cells.size=1:=rfl
   simp only[Array.size_append,List.size_toArray,size_zeroCells,hz1,hxl,strCells_length]
   omega
  ·simp only[Array.toList_append,List.append_assoc]
   rw[<-List.append_assoc,<-hlen]
   exact List.take_left
 have newB: ∀o:Obj,Below base w (w.drew.alloc o)/\(∀k,k<w.heap.size->(w.drew.alloc o).heap[k]? =w.heap[k]?):=λ o=>
  ⟨((Below.refl base w).drew).alloc hbase o,λ k hk=>Below.heap_alloc w.drew o k hk⟩
 rcases hown.2 with⟨rfl,rfl⟩|⟨g,cap,cur,rfl,hbg,hg,hnc,hcm,hcs,MD⟩
 ·have hx:xs=[]:=List.eq_nil_of_length_eq_zero hxl
  subst hx
  by_cases hm:s.size=0
  ·have hn:strCells s=[]:=List.eq_nil_of_length_eq_zero (by rw[strCells_length];exact hm)
   refine⟨.slice none 0 0,w,?_,by rw[hm,hn];exact World.ownsRow_nil w base e 1,Below.refl _ _,λ _ _ _=>rfl,λ _ _ _ _=>rfl,.inl U⟩
   have hf:=run_firstCells_string (P:=P) w 1 s
   rw[hm]at hf
   simp[Builtin.append_,run_underlying ht,run_underlying hu,sizeOf,typeInfo,hi,hsize,Builtin.lenOf,hm,hf]
  ·have hr:=run_append_nil_string (P:=P) w t u ty e i (.int .u8 0) ht hu hi hz s (by omega) (by omega) (by rw[hby];omega)
   have hgr:=grown 0
   simp only[Nat.zero_add,List.nil_append,Array.empty_append]at hgr ⊢
   have e1:(s.data.map λ b=>Value.int .u8 b.toNat)=(strCells s).toArray:=by
    apply Array.ext'
    simp[strCells]
   rw[e1]at hr
   exact⟨_,_,hr,hgr,(newB _).1,λ k hk _=>(newB _).2 k hk,λ g hg=>(by cases hg),.inr ⟨_,rfl,Nat.le_refl _⟩⟩
 ·by_cases hroom:n+s.size<=cap
  ·have hcs':cur.size=cap:=by simpa using hcs
   have hr:=run_append_room_string (P:=P) w t u ty e i ht hu hi hsize g n cap cur hg s hroom (by omega)
   refine⟨_,_,hr,⟨hlen,.inr ⟨g,cap,_,rfl,hbg,QJ w g _ cur e _ hg,hroom,hcm,?_,?_⟩⟩,UO _ hbg,λ k _ hk=>P3 w g k _ (λ e=>hk (by simp[Value.ownBlock,e])),λ g' hg' o ho=>?_,.inl U⟩
   ·simp only[List.size_toArray,List.length_append,List.length_take,List.length_drop,Array.length_toList,strCells_length]
    omega
   ·have ht':cur.toList.take n=xs:=by simpa using MD
    rw[ht',<-hlen]
    exact List.take_left
   ·simp only[Value.ownBlock,Option.some.injEq]at hg';subst hg'
    simp only[World.cell?,QJ w g _ cur e _ hg,hg]
    have hlo:o<n:=by rw[<-hxl];exact ho
    have hoc:o<cur.size:=by omega
    rw[List.append_assoc]
    simp only[List.getElem?_toArray]
    rw[List.getElem?_append_left (by simp;omega),List.getElem?_take]
    simp[hlo,hoc]
  ·have holds: ∀j u,xs[j]? =some u->w.cell? ((⟨g,0,none⟩:Addr).add j)=some u:=hown.cells (g:=g) U
   have hr:=run_append_grow_string (P:=P) w t u ty e i (.int .u8 0) ht hu hi hz ⟨g,0,none⟩ n cap xs (by rw[hsize];simpa using hxl) holds s (by omega) (by omega) (by rw[hby];exact growslice_fits (by omega) (by omega))
   refine⟨_,_,hr,grown cap,(newB _).1,λ k hk _=>(newB _).2 k hk,λ g' hg' o _=>?_,.inr ⟨_,rfl,Nat.le_refl _⟩⟩
   have hlt:g'<w.heap.size:=(World.ownsRow.lt hown g' hg').2
   simp only[World.cell?,(newB _).2 g' hlt]
def ints(s:A1):List Int:=s.map (λ b=>(b.toNat:Int))
theorem QQ(a b:A1):ints (a++b)=ints a++ints b:=List.map_append
theorem IC(s:A1):len (ints s)=len s:=by unfold ints len;simp
theorem tI(s:A1):strCells ⟨⟨s⟩⟩=(ints s).flatMap AQ:=by
 rw[SJ];unfold strCells ints;rw[List.map_map];rfl
def QS:Value->Bool| .nilIface=>true|_=>false
theorem PV.V3 {P:Program}{C:World->Prop}{L:Env}{W:Bool}{d:Option Tmp}{ty:TypeId}{ps:String}{af:Array Edge}{gd:Option (Nat×Bool)}{t t':TypeId}{x:Operand}{v:Value}(hx:A8 L W x v)(hv:v= .nilIface\/ ∃u p,v= .iface u p)(ht:P.underlying t=some (.interface (P.methodsAt t))):
  PV P C L W ⟨d,.binOp .neq t x (.const .nilIface) t',ty,ps,af,gd⟩ (.bool (!QS v)):=
 .bin hx .c λ _ w _=>by
  rcases hv with rfl|⟨u,p,rfl⟩
  ·have:=run_neq_nil_nil (P:=P) w t ht
   simp[go_sem,this,QS]
  ·have:=run_neq_held_nil (P:=P) w t u p ht
   simp[go_sem,this,QS]
theorem CW.fT {P:Program}{Q:Exit->Act->World->Prop}{N:Nat}{L:Env}{w:World}{c:Code}(n:Nat)(h:CW P c (Exit.then (Code.rounds P c Q n) Q) N L w):CW P (.loop c) Q N L w:=λ a hs=>wp_loop_rounds (n+1) (h a hs)
theorem CW.round {P:Program}{Q:Exit->Act->World->Prop}{N:Nat}{L L':Env}{w:World}{c:Code}{n:Nat}(ks:List Nat)(hk:Eng.BC ks L=L')(h:CW P c (Exit.then (Code.rounds P c Q n) Q) N L' w): ∀a,AJ a N L->Code.rounds P c Q (n+1) a w:=λ a hs=>h a (hk▸hs.BC ks)
theorem RL.insert {P:Program}{ops:Array Oper}{Q:Exit->Act->World->Prop}{N:Nat}{rest:List Oper}{L:Env}{w0 w:World}{M0 M:Mem}{Hs:List HO}{ty:TypeId}{ps:String}{af:Array Edge}{t kt e:TypeId}{k:IntKind}{m x y:Operand}{i b c c':Nat}{l l':List KV}{n:Int}{v:Value}{Hs':List HO}(hS:St w0 M0 w M Hs)(hi:Hs[i]? =some (.raw b (AK k l c)))(hm:A8 L true m (.map (some b)))(hx:A8 L true x (.int k n))(hy:A8 L true y v)
 (ht:P.underlying t=some (.map kt e)) (hk:P.underlying kt=some (.int k)) (hl:FM l c n v=l') (hc:HR l c n v=c') (hHs:Hs.set i (.raw b (AK k l' c'))=Hs')
 (h: ∀w',St w0 M0 w' M Hs'->RL P ops Q N rest L w'):RL P ops Q N (⟨none,.insert t m x y,ty,ps,af,none⟩::rest) L w:=RL.mapUpdate true hS hi hm hx hy ht hk hl hc hHs h
theorem RL.fU {P:Program}{ops:Array Oper}{Q:Exit->Act->World->Prop}{N:Nat}{rest:List Oper}{L:Env}{w0 w:World}{M0 M:Mem}{Hs:List HO}{ty:TypeId}{ps:String}{af:Array Edge}{t kt e:TypeId}{k:IntKind}{m x y:Operand}{i b c c':Nat}{l l':List KV}{n:Int}{v:Value}{Hs':List HO}(hS:St w0 M0 w M Hs)(hi:Hs[i]? =some (.raw b (AK k l c)))(hm:A8 L true m (.map (some b)))(hx:A8 L true x (.int k n))(hy:A8 L true y v)
 (ht:P.underlying t=some (.map kt e)) (hk:P.underlying kt=some (.int k)) (hl:FM l c n v=l') (hc:HR l c n v=c') (hHs:Hs.set i (.raw b (AK k l' c'))=Hs')
 (h: ∀w',St w0 M0 w' M Hs'->RL P ops Q N rest L w'):RL P ops Q N (⟨none,.mapUpdate t m x y,ty,ps,af,none⟩::rest) L w:=RL.mapUpdate false hS hi hm hx hy ht hk hl hc hHs h
theorem PV.tJ {P:Program}{C:World->Prop}{L:Env}{W:Bool}{d:Option Tmp}{ty:TypeId}{ps:String}{af:Array Edge}{gd:Option (Nat×Bool)}{w0 w:World}{M0 M:Mem}{Hs:List HO}{k:IntKind}{x:Operand}{i j b r c since:Nat}{seen:Array Nat}{l:List KV}{p:KV}{u:Value}(hS:St w0 M0 w M Hs)(hC: ∀w',C w'->Ext w w')(hi:Hs[i]? =some (.raw b (AK k l c)))(hj:Hs[j]? =some (.raw r (.mapIter (some b) since (seen.push p.born) c)))(hx:A8 L W x (.pointer (some ⟨r,0,none⟩)))
 (hp:p∈l) (hn:(l.map (·.born)).Nodup) (hu:p.val=u):PV P C L W ⟨d,.entry x,ty,ps,af,gd⟩ (.tuple #[.int k p.key,u]):=hu▸PV.entry hS hC hi hj hx hp hn
section rl
variable {P:Program} {ops:Array Oper} {Q:Exit->Act->World->Prop} {N:Nat} {rest:List Oper} {L:Env} {w0 w:World} {M0 M:Mem} {Hs:List HO} {d:Nat} {ty:TypeId} {ps:String} {af:Array Edge}
theorem RL.YY {t t':TypeId}{x y:Operand}{i b o sz n:Nat}{cs cs' us:List Value}{v:Value}(hS:St w0 M0 w M Hs)(hv:Sl M sz n v us)(hi:Hs[i]? =some (.box b cs t'))(hx:A8 L true x (.pointer (some ⟨b,o,none⟩)))(hy:A8 L true y v)(hs: ∀w,(sizeOf t).run P w= .ok 1 w)
  (hfit:Nat.ble (o+1) cs.length=true) (hcs:GH cs o [v]=cs') {Hs':List HO} (hHs:Hs.set i (.box b cs' t')=Hs')
  (h: ∀w',St w0 M0 w' M Hs'->RL P ops Q N rest L w'):RL P ops Q N (⟨none,.store t x y,ty,ps,af,none⟩::rest) L w:=by
 obtain⟨p,cap,rfl,_⟩:=hv.val
 exact RL.YK hS hi hx hy hs U hfit U hcs hHs h
theorem RL.tK {l:List Int}{s:A1}{t u e:TypeId}{x y:Operand}{i:TypeInfo}{k:Nat}{v:Value}(hS:St w0 M0 w M Hs)(hk:Hs[k]? =some (.own e 1 v l.length (l.flatMap AQ)))(hx:A8 L true x v)(hy:A8 L true y (str s))
  (ht:P.underlying t=some (.slice e)) (hu:P.underlying u=some .string) (hi:P.info? e=some i) (hz:i.zero=some (.int .u8 0)) (hsize:i.size=1) (hby:i.bytes=1)
  (hb:len l+len s<=140737488355328) (hd:Nat.blt d N=true) {Hs':Value->List HO} (hHs: ∀v',Hs.set k (.own e 1 v' (l++ints s).length ((l++ints s).flatMap AQ))=Hs' v')
  (h: ∀v' w' M',St w0 M0 w' M' (Hs' v')->M.le M'->RL P ops Q N rest ((d,true,v')::L) w'):RL P ops Q N (⟨some d,.call ⟨.builtin .append,#[x,y],#[t,u]⟩,ty,ps,af,none⟩::rest) L w:=by
 intro a hsl
 refine wpList_plain U λ K hK=>?_
 obtain⟨hown,_⟩:=hS.obj hk
 have hsz:(ByteArray.mk ⟨s⟩).size=s.length:=rfl
 obtain⟨v',w',hr,h1,h2,h3,h4,h5⟩:=tH (P:=P) w w0.heap.size t u ty e i ht hu hi hz hsize hby v l.length _ hown ⟨⟨s⟩⟩ (by rw[hsz];unfold len at hb;simp only[maxLen];omega) (by rw[hsz];unfold len at hb;omega) hS.size
 obtain⟨M',hS',hle⟩:=hS.fD hk h1 h2 h3 h4 h5
 have key:(execOp a.eval ⟨some d,.call ⟨.builtin .append,#[x,y],#[t,u]⟩,ty,ps,af,none⟩).run P w= .ok (.value v') w':=by
  have hr':(Builtin.append_ #[t,u] ty #[v,str s]).run P w= .ok v' w':=hr
  simp only[execOp,resolve,invoke,builtin,Sem.run_bind,Sem.run_pure,Result.andThen_ok,List.map_toArray,List.map_cons,List.map_nil,hx a N hsl U,hy a N hsl U,hr']
 simp only[Oper.wp,key,Oper.upon_value]
 refine hK _ _ (h _ _ M' ?_ hle _ (hsl.put hd true _))
 rw[<-hHs v',List.length_append,List.flatMap_append,<-tI]
 have hl2:(ints s).length=(ByteArray.mk ⟨s⟩).size:=by rw[hsz];unfold ints;simp
 rw[hl2];exact hS'
end rl
def Sub(E LL:Env):Prop:= ∀t x,look E t=some x->look LL t=some x
theorem Sub.nil {LL:Env}:Sub [] LL:=λ _ _ h=>by cases h
theorem Sub.refl {LL:Env}:Sub LL LL:=λ _ _ h=>h
theorem Sub.cons {E LL:Env}{t:Nat}{g:Bool}{v:Value}(h:look LL t=some (g,v))(k:Sub E LL):Sub ((t,g,v)::E) LL:=by
 intro t' x hx
 by_cases e:t=t'
 ·subst e;rw[KL]at hx;rw[h,hx]
 ·rw[HP e]at hx;exact k t' x hx
theorem fV{N:Nat}{E LL:Env}{R:Act->Prop}(h:Sub E LL)(k: ∀a,AJ a N E->R a): ∀a,AJ a N LL->R a:=
 λ a hs=>k a ⟨hs.size,hs.DE,λ t g v ht=>hs.val t g v (h t (g,v) ht)⟩
structure Fact where
 holds:Mem->Bool->Value->Prop
 mono: ∀ {M M':Mem} {g:Bool} {v:Value},M.le M'->holds M g v->holds M' g v
def Fact.is (W:Bool)(x:Value):Fact:=⟨λ _ g v=>g=W/\v=x,λ _ h=>h⟩
def Fact.sl (sz n:Nat)(cs:List Value):Fact:=⟨λ M g v=>g=true/\Sl M sz n v cs,λ h k=>⟨k.1,k.2.mono h⟩⟩
def Fact.any:Fact:=⟨λ _ _ _=>True,λ _ h=>h⟩
def V4(Fs:List Fact)(k:Nat):Fact:=(Fs[k]?).getD .any
def BV(o:Oper):List Nat:=(o.after.toList.filter (λ e=>Region.binds .any e)).map (·.on)
def BO(l:List Oper)(j:Nat):Option Tmp:=(l[j]?).bind (·.dst)
def O4(L:Env):List Nat:=L.map (·.1)
def O5(l:List Oper)(ks:List Nat):Bool:=
 (List.range l.length).all (λ i=>((l[i]?).map (λ o=>(BV o).all (λ j=>Nat.blt j i))).getD false)&&
 (List.range l.length).all (λ i=>(List.range l.length).all (λ j=>Nat.beq i j||(match BO l i,BO l j with|some a,some b=> !(Nat.beq a b)|_,_=>true)))&&
 (List.range l.length).all (λ i=>(match BO l i with|some a=>ks.all (λ t=> !(Nat.beq t a))|none=>true))
abbrev ID(Fs:List Fact)(l:List Oper)(LL:Env)(M1:Mem)(j:Nat):Prop:=
 match BO l j with
 |some d=> ∃g v,look LL d=some (g,v)/\(V4 Fs j).holds M1 g v
 |none=>True
abbrev HT(Fs:List Fact)(k:Nat)(o:Oper)(LL LL':Env)(M2:Mem):Prop:=
 match o.dst with
 |some d=> ∃g v,LL'=(d,g,v)::LL/\(V4 Fs k).holds M2 g v
 |none=>LL'=LL
def tL(P:Program)(Q:Exit->Act->World->Prop)(N:Nat)(w0:World)(M0 M:Mem)(Hs:List HO)(Fs:List Fact)(l:List Oper)(L:Env)(k:Nat)(o:Oper):Prop:=
 ∀LL w1 M1,M.le M1->St w0 M0 w1 M1 Hs->Sub L LL->(∀j∈BV o,ID Fs l LL M1 j)->
  RL P l.toArray (Qn (λ a' w'=> ∃LL' M2,M1.le M2/\St w0 M0 w' M2 Hs/\AJ a' N LL'/\HT Fs k o LL LL' M2) Q) N [o] LL w1
def J2(f:Nat->Oper->Prop):Nat->List Oper->Prop
 |_,[]=>True
 |k,o::r=>f k o/\J2 f (k+1) r
theorem J2.nil {f:Nat->Oper->Prop}{k:Nat}:J2 f k []:=trivial
theorem J2.cons {f:Nat->Oper->Prop}{k:Nat}{o:Oper}{r:List Oper}(h:f k o)(h2:J2 f (k+1) r):J2 f k (o::r):=⟨h,h2⟩
theorem J2.get {f:Nat->Oper->Prop}: ∀ {r:List Oper} {k i:Nat} {o:Oper},J2 f k r->r[i]? =some o->f (k+i) o
 |[],_,_,_,_,h=>by simp at h
 |x::r,k,0,o,h,hi=>by simp at hi;subst hi;exact h.1
 |x::r,k,i+1,o,h,hi=>by
  have:=J2.get h.2 (show r[i]? =some o by simpa using hi)
  rw[show k+(i+1)=k+1+i from by omega];exact this
theorem YZ{P:Program}{ops:Array Oper}{Q:Exit->Act->World->Prop}{a:Act}{w:World}{i:Nat}{o:Oper}(ho:ops[i]? =some o){K K':Act->World->Prop}(h:wpList P ops (Qn K Q) [o] a w)(hk: ∀a w,K a w->K' a w):wpOp P ops Q i K' a w:=by
 unfold wpOp
 rw[ho]
 unfold wpList at h
 dsimp only
 split
 ·rename_i hw
  rw[if_pos hw]at h
  rcases h with h|⟨h1,h2⟩
  ·exact .inl (Oper.wp_mono (λ a w hh=>hk a w hh) (fS _ h))
  ·exact .inr ⟨h1,h2⟩
 ·rename_i hw
  rw[if_neg hw]at h
  exact hk _ _ h
theorem CW.regionF {P:Program}{Q:Exit->Act->World->Prop}{N:Nat}{L:Env}{w0 w:World}{M0 M:Mem}{Hs:List HO}{id:Nat}{l:List Oper}(Fs:List Fact)(hS:St w0 M0 w M Hs)(hm:P.follows .mixedOrders=true)(ks:List Nat)(hks:O4 L=ks)(hB:O5 l ks=true)
  (hop:J2 (tL P Q N w0 M0 M Hs Fs l L) 0 l)
  (hcont: ∀w' M1 LL,M.le M1->St w0 M0 w' M1 Hs->Sub L LL->(∀j,j<l.length->ID Fs l LL M1 j)-> ∀a,AJ a N LL->Q .normal a w'):CW P (.region id l.toArray true) Q N L w:=by
 intro a hs
 refine wp_region_any hm ?_
 subst hks
 unfold O5 at hB
 simp only[Bool.and_eq_true]at hB
 obtain⟨⟨hac,hdd⟩,hbd⟩:=hB
 have acyc: ∀i o,l[i]? =some o-> ∀j∈BV o,j<i:=by
  intro i o ho j hj
  have hlt:i<l.length:=(List.getElem?_eq_some_iff.1 ho).1
  have:=List.all_eq_true.1 hac i (List.mem_range.2 hlt)
  rw[ho]at this
  simp only[Option.map_some,Option.getD_some]at this
  exact Nat.le_of_ble_eq_true (List.all_eq_true.1 this j hj)
 have dist: ∀i j a b,BO l i=some a->BO l j=some b->i≠j->a≠b:=by
  intro i j a b hi hj hij
  have h1:i<l.length:=by
   rcases Nat.lt_or_ge i l.length with h|h
   ·exact h
   ·simp[BO,h]at hi
  have h2:j<l.length:=by
   rcases Nat.lt_or_ge j l.length with h|h
   ·exact h
   ·simp[BO,h]at hj
  have:=List.all_eq_true.1 (List.all_eq_true.1 hdd i (List.mem_range.2 h1)) j (List.mem_range.2 h2)
  rw[hi,hj]at this
  simp only[Bool.or_eq_true,Bool.not_eq_true']at this
  rcases this with h|h
  ·exact absurd (Nat.eq_of_beq_eq_true h) hij
  ·intro e;subst e;simp at h
 have base: ∀i a x,BO l i=some a->look L a=some x->False:=by
  intro i a x hi hx
  have h1:i<l.length:=by
   rcases Nat.lt_or_ge i l.length with h|h
   ·exact h
   ·simp[BO,h]at hi
  have:=List.all_eq_true.1 hbd i (List.mem_range.2 h1)
  rw[hi]at this
  have key: ∀(L:Env),(O4 L).all (λ t=> !(Nat.beq t a))=true->look L a=none:=by
   intro L
   induction L with
   |nil=>intro _;rfl
   |cons y L ih=>
    obtain⟨t,g,v⟩:=y
    intro h
    simp only[O4,List.map_cons,List.all_cons,Bool.and_eq_true,Bool.not_eq_true']at h
    have hne:t≠a:=by intro e;subst e;simp at h
    rw[HP hne];exact ih h.2
  rw[key L this]at hx;cases hx
 let Inv:Array Bool->Act->World->Prop:=λ listed a w'=> ∃LL M1,M.le M1/\St w0 M0 w' M1 Hs/\Sub L LL/\AJ a N LL/\ ∀j,listed.getD j false=true->ID Fs l LL M1 j
 have hend: ∀listed a w',Inv listed a w'->listed.size=l.length->Region.ready .any l.toArray listed=[]->Q .normal a w':=by
  rintro listed a w' ⟨LL,M1,h1,h2,h3,h4,h5⟩ hsz hr
  have all: ∀i,i<l.length->listed.getD i true=true:=by
   intro i
   induction i using Nat.strongRecOn with
   |_ i ih=>
    intro hi
    cases hli:listed.getD i true with
    |true=>rfl
    |false=>
     exfalso
     have:i∈Region.ready .any l.toArray listed:=by
      unfold Region.ready
      refine List.mem_filter.2 ⟨List.mem_range.2 (by simpa using hi),?_⟩
      have ho:l.toArray[i]? =some l[i]:=by simp[hi]
      rw[hli,ho]
      simp only[Bool.not_false,Bool.true_and,Option.map_some,Option.getD_some]
      rw[Array.all_eq_true_iff_forall_mem]
      intro e he
      by_cases hb:Region.binds .any e=true
      ·have hlt:=acyc i l[i] (by simp[hi]) e.on (List.mem_map.2 ⟨e,List.mem_filter.2 ⟨by simpa using he,hb⟩,rfl⟩)
       have:=ih e.on hlt (by omega)
       have hs':e.on<listed.size:=by omega
       simp[Array.getD,hs']at this ⊢
       right;exact this
      ·simp[hb]
     rw[hr]at this;cases this
  refine hcont w' M1 LL h1 h2 h3 (λ j hj=>h5 j ?_) a h4
  have:=all j hj
  have hs':j<listed.size:=by omega
  simpa[Array.getD,hs']using this
 let cnt:Array Bool->Nat:=λ b=>(b.toList.filter (λ x=> !x)).length
 have cset: ∀(b:Array Bool) (i:Nat),i<b.size->b.getD i true=false->cnt (b.setIfInBounds i true)+1<=cnt b:=by
  intro b i hi hb
  have key: ∀(m:List Bool) (i:Nat),m[i]? =some false->((m.set i true).filter (λ x=> !x)).length+1=(m.filter (λ x=> !x)).length:=by
   intro m
   induction m with
   |nil=>intro i h;simp at h
   |cons x m ih=>
    intro i h
    cases i with
    |zero=>simp at h;subst h;simp
    |succ i=>
     have:=ih i (by simpa using h)
     cases x<;>simp[List.set_cons_succ,List.filter_cons]<;>omega
  have hb':b.toList[i]? =some false:=by
   simp[Array.getD,hi]at hb
   simp[hi,hb]
  have:=key b.toList i hb'
  simp only[cnt,Array.toList_setIfInBounds]
  omega
 have main: ∀fuel listed a w',Inv listed a w'->listed.size=l.length->cnt listed<=fuel->wpAny P .any l.toArray Q fuel listed a w':=by
  intro fuel
  induction fuel with
  |zero=>
   intro listed a w' hI hsz hc
   have hr:Region.ready .any l.toArray listed=[]:=by
    refine List.eq_nil_iff_forall_not_mem.2 λ i hi=>?_
    unfold Region.ready at hi
    have h2:=(List.mem_filter.1 hi).2
    have h1:=List.mem_range.1 (List.mem_filter.1 hi).1
    simp only[Bool.and_eq_true,Bool.not_eq_true']at h2
    have:=cset listed i (by simp at h1;omega) h2.1
    omega
   exact⟨hr,hend listed a w' hI hsz hr⟩
  |succ fuel ih=>
   intro listed a w' hI hsz hc
   refine⟨λ hr=>hend listed a w' hI hsz hr,λ i hi=>?_⟩
   unfold Region.ready at hi
   have h2:=(List.mem_filter.1 hi).2
   have h1:i<l.length:=by simpa using List.mem_range.1 (List.mem_filter.1 hi).1
   have ho:l.toArray[i]? =some l[i]:=by simp[h1]
   have ho':l[i]? =some l[i]:=by simp[h1]
   rw[ho]at h2
   simp only[Bool.and_eq_true,Bool.not_eq_true',Option.map_some,Option.getD_some]at h2
   obtain⟨LL,M1,g1,g2,g3,g4,g5⟩:=hI
   have hdep: ∀j∈BV l[i],ID Fs l LL M1 j:=by
    intro j hj
    obtain⟨e,he,rfl⟩:=List.mem_map.1 hj
    have he':=List.mem_filter.1 he
    have:=(Array.all_eq_true_iff_forall_mem.1 h2.2) e (by simpa using he'.1)
    rw[he'.2]at this
    exact g5 _ (by simpa using this)
   have hk:=J2.get hop ho'
   rw[Nat.zero_add]at hk
   refine YZ (K:=λ a' w'=> ∃LL' M2,M1.le M2/\St w0 M0 w' M2 Hs/\AJ a' N LL'/\HT Fs i l[i] LL LL' M2) ho (hk LL w' M1 g1 g2 g3 hdep a g4) ?_
   rintro a' w'' ⟨LL',M2,k1,k2,k3,k4⟩
   refine ih _ a' w'' ⟨LL',M2,g1.trans k1,k2,?_,k3,?_⟩ (by simp[hsz]) (by have:=cset listed i (by omega) h2.1;omega)
   ·intro t x ht
    unfold HT at k4
    cases hd:(l[i]).dst with
    |none=>rw[hd]at k4;subst k4;exact g3 t x ht
    |some d=>
     rw[hd]at k4
     obtain⟨g,v,rfl,_⟩:=k4
     have hne:d≠t:=by
      intro e;subst e
      exact base i d x (by simp[BO,h1,hd]) ht
     rw[HP hne];exact g3 t x ht
   ·intro j hj
    by_cases hji:j=i
    ·subst hji
     unfold ID
     unfold HT at k4
     cases hd:(l[j]).dst with
     |none=>simp[BO,h1,hd]
     |some d=>
      rw[hd]at k4
      obtain⟨g,v,rfl,hv⟩:=k4
      simp only[BO,ho',Option.bind_some,hd]
      exact⟨g,v,KL _ _ _ _,hv⟩
    ·have hj':listed.getD j false=true:=by
      rw[Array.getD_eq_getD_getElem?,Array.getElem?_setIfInBounds_ne (Ne.symm hji),<-Array.getD_eq_getD_getElem?]at hj
      exact hj
     have hold:=g5 j hj'
     unfold ID at hold ⊢
     cases hdj:BO l j with
     |none=>trivial
     |some dj=>
      rw[hdj]at hold
      obtain⟨g,v,hl,hv⟩:=hold
      dsimp only
      refine⟨g,v,?_,(V4 Fs j).mono k1 hv⟩
      unfold HT at k4
      cases hd:(l[i]).dst with
      |none=>rw[hd]at k4;subst k4;exact hl
      |some d=>
       rw[hd]at k4
       obtain⟨g',v',rfl,_⟩:=k4
       have hne:d≠dj:=dist i j d dj (by simp[BO,h1,hd]) hdj (Ne.symm hji)
       rw[HP hne];exact hl
 refine main _ _ a _ ⟨L,M,Mem.le.refl _,hS.ext (Ext.drew w),Sub.refl,hs,?_⟩ (by simp) ?_
 ·intro j hj
  exfalso
  rcases Nat.lt_or_ge j l.length with h|h
  ·simp[Array.getD,h]at hj
  ·simp[Array.getD,h]at hj
 ·have:cnt (Array.replicate l.toArray.size false)<=l.toArray.size:=by
   simp only[cnt,Array.toList_replicate]
   have:=List.length_filter_le (λ x:Bool=> !x) (List.replicate l.toArray.size false)
   simp
  simpa using this
structure XF where
 f:Value->Mem->List HO->Prop
 mono: ∀ {v M M' X},M.le M'->f v M X->f v M' X
def XF.eq (g:Value->List HO):XF:=⟨λ v _ X=>X=g v,λ _ h=>h⟩
def XP(st:List (Nat×XF))(X0:List HO)(j:Nat)(LL:Env)(M:Mem)(X:List HO):Prop:=
 match j with
 |0=>X=X0
 |j+1=>match st[j]? with
  |some (t,f)=> ∃v,look LL t=some (true,v)/\f.f v M X
  |none=>True
def fW(l:List Oper)(fl:List (Option Nat)):Bool:=
 (List.range l.length).all (λ k=>match(fl[k]?).getD none with
  |some (i+1)=>(match l[k]? with|some o=>(BV o).any (λ k'=>(fl[k']?).getD none==some i)|none=>true)
  |_=>true)&&
 (List.range l.length).all (λ k=>(List.range l.length).all (λ k'=>Nat.beq k k'||(match(fl[k]?).getD none,(fl[k']?).getD none with|some a,some b=> !(Nat.beq a b)|_,_=>true)))
section g
variable (P:Program) (Q:Exit->Act->World->Prop) (N:Nat) (w0:World) (M0 M:Mem) (HsQ:List HO) (Fs:List Fact) (l:List Oper) (L:Env) (st:List (Nat×XF)) (X0:List HO)
def tM(k:Nat)(o:Oper):Prop:=
 ∀LL w1 M1 X,M.le M1->St w0 M0 w1 M1 (HsQ++X)->Sub L LL->(∀j∈BV o,ID Fs l LL M1 j)->
  RL P l.toArray (Qn (λ a' w'=> ∃LL' M2,M1.le M2/\St w0 M0 w' M2 (HsQ++X)/\AJ a' N LL'/\HT Fs k o LL LL' M2) Q) N [o] LL w1
def tN(j k:Nat)(o:Oper):Prop:=
 ∀LL w1 M1 X,M.le M1->St w0 M0 w1 M1 (HsQ++X)->Sub L LL->(∀j∈BV o,ID Fs l LL M1 j)->XP st X0 j LL M1 X->
  RL P l.toArray (Qn (λ a' w'=> ∃LL' M2 X',M1.le M2/\St w0 M0 w' M2 (HsQ++X')/\AJ a' N LL'/\HT Fs k o LL LL' M2/\XP st X0 (j+1) LL' M2 X') Q) N [o] LL w1
def tO(fl:List (Option Nat))(n:Nat)(o:Oper):Prop:=
 ∀LL w1 M1 X,M.le M1->St w0 M0 w1 M1 (HsQ++X)->Sub L LL->(∀j,j<n->ID Fs l LL M1 j)->XP st X0 (fl.filter (·.isSome)).length LL M1 X->RL P l.toArray Q N [o] LL w1
def fX(fl:List (Option Nat))(n:Nat)(k:Nat)(o:Oper):Prop:=
 if k=n then tO P Q N w0 M0 M HsQ Fs l L st X0 fl n o else
 match(fl[k]?).getD none with
 |some j=>tN P Q N w0 M0 M HsQ Fs l L st X0 j k o
 |none=>tM P Q N w0 M0 M HsQ Fs l L k o
end g
theorem tP{P:Program}{ops:Array Oper}{Q:Exit->Act->World->Prop}{a:Act}{w:World}{i:Nat}{o:Oper}(ho:ops[i]? =some o){K:Act->World->Prop}(h:wpList P ops Q [o] a w)(hk: ∀a w,Q .normal a w->K a w):wpOp P ops Q i K a w:=by
 unfold wpOp
 rw[ho]
 unfold wpList at h
 dsimp only
 split
 ·rename_i hw
  rw[if_pos hw]at h
  rcases h with h|⟨h1,h2⟩
  ·exact .inl (Oper.wp_mono (λ a w hh=>hk a w hh) h)
  ·exact .inr ⟨h1,h2⟩
 ·rename_i hw
  rw[if_neg hw]at h
  exact hk _ _ h
theorem tQ{P:Program}{ops:Array Oper}{Q:Exit->Act->World->Prop}{listed:Array Bool}(hr:Region.ready .any ops listed=[]): ∀(fuel:Nat) (a:Act) (w:World),Q .normal a w->wpAny P .any ops Q fuel listed a w
 |0,_,_,h=>⟨hr,h⟩
 |_+1,_,_,h=>⟨λ _=>h,λ i hi=>by rw[hr]at hi;cases hi⟩
theorem CW.tR {P:Program}{Q:Exit->Act->World->Prop}{N:Nat}{L:Env}{w0 w:World}{M0 M:Mem}{HsQ:List HO}{id:Nat}{l:List Oper}(n:Nat)(Fs:List Fact)(st:List (Nat×XF))(X0:List HO)(fl:List (Option Nat))(hS:St w0 M0 w M (HsQ++X0))(hm:P.follows .mixedOrders=true)(ks:List Nat)(hks:O4 L=ks)
  (hB:O5 l ks=true) (hL:fW l fl=true) (hn:l.length=n+1) (hfn:fl.length=n) (hlast:(List.range n).all (λ i=>(List.range (n+1)).any (λ j=>Nat.blt i j&&(match l[j]? with|some o=>(BV o).contains i|none=>false)))=true) (hcnt:(List.range (n+1)).all (λ i=>decide (i<(fl.filter (·.isSome)).length)==fl.contains (some i))=true) (ts:List Nat) (hts:st.map (·.1)=ts) (htl:ts.all (λ t=>(List.range l.length).any (λ k=>(BO l k==some t)&&((fl[k]?).getD none).isSome))=true)
  (hop:J2 (fX P Q N w0 M0 M HsQ Fs l L st X0 fl n) 0 l):CW P (.region id l.toArray true) Q N L w:=by
 intro a hs
 refine wp_region_any hm ?_
 subst hks
 unfold O5 at hB
 simp only[Bool.and_eq_true]at hB
 obtain⟨⟨hac,hdd⟩,hbd⟩:=hB
 unfold fW at hL
 simp only[Bool.and_eq_true]at hL
 obtain⟨hL1,hL2⟩:=hL
 have dist: ∀i j a b,BO l i=some a->BO l j=some b->i≠j->a≠b:=by
  intro i j a b hi hj hij
  have h1:i<l.length:=by
   rcases Nat.lt_or_ge i l.length with h|h
   ·exact h
   ·simp[BO,h]at hi
  have h2:j<l.length:=by
   rcases Nat.lt_or_ge j l.length with h|h
   ·exact h
   ·simp[BO,h]at hj
  have:=List.all_eq_true.1 (List.all_eq_true.1 hdd i (List.mem_range.2 h1)) j (List.mem_range.2 h2)
  rw[hi,hj]at this
  simp only[Bool.or_eq_true,Bool.not_eq_true']at this
  rcases this with h|h
  ·exact absurd (Nat.eq_of_beq_eq_true h) hij
  ·intro e;subst e;simp at h
 have base: ∀i a x,BO l i=some a->look L a=some x->False:=by
  intro i a x hi hx
  have h1:i<l.length:=by
   rcases Nat.lt_or_ge i l.length with h|h
   ·exact h
   ·simp[BO,h]at hi
  have:=List.all_eq_true.1 hbd i (List.mem_range.2 h1)
  rw[hi]at this
  have key: ∀(L:Env),(O4 L).all (λ t=> !(Nat.beq t a))=true->look L a=none:=by
   intro L
   induction L with
   |nil=>intro _;rfl
   |cons y L ih=>
    obtain⟨t,g,v⟩:=y
    intro h
    simp only[O4,List.map_cons,List.all_cons,Bool.and_eq_true,Bool.not_eq_true']at h
    have hne:t≠a:=by intro e;subst e;simp at h
    rw[HP hne];exact ih h.2
  rw[key L this]at hx;cases hx
 have prev: ∀(k i:Nat) (o:Oper),l[k]? =some o->(fl[k]?).getD none=some (i+1)-> ∃k'∈BV o,(fl[k']?).getD none=some i:=by
  intro k i o ho hk
  have hlt:k<l.length:=(List.getElem?_eq_some_iff.1 ho).1
  have:=List.all_eq_true.1 hL1 k (List.mem_range.2 hlt)
  rw[hk]at this
  dsimp only at this
  rw[ho]at this
  dsimp only at this
  obtain⟨k',h1,h2⟩:=List.any_eq_true.1 this
  exact⟨k',h1,by simpa using h2⟩
 have inj: ∀(k k' i:Nat),(fl[k]?).getD none=some i->(fl[k']?).getD none=some i->k=k':=by
  intro k k' i h1 h2
  have hk:k<l.length:=by
   rcases Nat.lt_or_ge k fl.length with h|h
   ·omega
   ·simp[h]at h1
  have hk':k'<l.length:=by
   rcases Nat.lt_or_ge k' fl.length with h|h
   ·omega
   ·simp[h]at h2
  have:=List.all_eq_true.1 (List.all_eq_true.1 hL2 k (List.mem_range.2 hk)) k' (List.mem_range.2 hk')
  rw[h1,h2]at this
  simp only[Bool.or_eq_true,Bool.not_eq_true']at this
  rcases this with h|h
  ·exact Nat.eq_of_beq_eq_true h
  ·simp at h
 have cnt': ∀i,i<(fl.filter (·.isSome)).length↔fl.contains (some i)=true:=by
  intro i
  rcases Nat.lt_or_ge i (n+1)with h|h
  ·have:=List.all_eq_true.1 hcnt i (List.mem_range.2 h)
   rw[beq_iff_eq]at this
   rw[<-this,decide_eq_true_eq]
  ·have hle:(fl.filter (·.isSome)).length<=n:=by rw[<-hfn];exact List.length_filter_le _ _
   refine⟨λ h2=>by omega,λ h2=>?_⟩
   exfalso
   have down: ∀i,fl.contains (some i)=true-> ∀j,j<=i->fl.contains (some j)=true:=by
    intro i
    induction i with
    |zero=>intro h j hj;rw[show j=0 from by omega];exact h
    |succ i ih=>
     intro h j hj
     rcases Nat.lt_or_ge j (i+1)with h3|h3
     ·obtain⟨k,hk1,hk2⟩:=List.getElem_of_mem (List.contains_iff_mem.1 h)
      have hfk:(fl[k]?).getD none=some (i+1):=by simp[hk1,hk2]
      obtain⟨k',_,hk'⟩:=prev k i (l[k]'(by omega)) (by simp) hfk
      refine ih ?_ j (by omega)
      rw[List.contains_iff_mem]
      rcases Nat.lt_or_ge k' fl.length with h4|h4
      ·simp[h4]at hk';exact hk'▸List.getElem_mem h4
      ·simp[h4]at hk'
     ·rw[show j=i+1 from by omega];exact h
   have hb:=down i h2 n (by omega)
   have:=List.all_eq_true.1 hcnt n (List.mem_range.2 (by omega))
   rw[beq_iff_eq,hb]at this
   have:=of_decide_eq_true this
   omega
 let Inv:Array Bool->Act->World->Prop:=λ listed a w'=> ∃LL M1 X j,M.le M1/\St w0 M0 w' M1 (HsQ++X)/\Sub L LL/\AJ a N LL/\(∀j,listed.getD j false=true->ID Fs l LL M1 j)/\XP st X0 j LL M1 X/\(∀k i,(fl[k]?).getD none=some i->(listed.getD k false=true↔i<j))/\j<=(fl.filter (·.isSome)).length/\listed.getD n false=false
 let cnt:Array Bool->Nat:=λ b=>(b.toList.filter (λ x=> !x)).length
 have cset: ∀(b:Array Bool) (i:Nat),i<b.size->b.getD i true=false->cnt (b.setIfInBounds i true)+1<=cnt b:=by
  intro b i hi hb
  have key: ∀(m:List Bool) (i:Nat),m[i]? =some false->((m.set i true).filter (λ x=> !x)).length+1=(m.filter (λ x=> !x)).length:=by
   intro m
   induction m with
   |nil=>intro i h;simp at h
   |cons x m ih=>
    intro i h
    cases i with
    |zero=>simp at h;subst h;simp
    |succ i=>
     have:=ih i (by simpa using h)
     cases x<;>simp[List.set_cons_succ,List.filter_cons]<;>omega
  have hb':b.toList[i]? =some false:=by
   simp[Array.getD,hi]at hb
   simp[hi,hb]
  have:=key b.toList i hb'
  simp only[cnt,Array.toList_setIfInBounds]
  omega
 have getF: ∀(b:Array Bool) (i:Nat),i<b.size->b.getD i true=b.getD i false:=by
  intro b i hi;simp[Array.getD,hi]
 have acyc: ∀i o,l[i]? =some o-> ∀j∈BV o,j<i:=by
  intro i o ho j hj
  have hlt:i<l.length:=(List.getElem?_eq_some_iff.1 ho).1
  have:=List.all_eq_true.1 hac i (List.mem_range.2 hlt)
  rw[ho]at this
  simp only[Option.map_some,Option.getD_some]at this
  exact Nat.le_of_ble_eq_true (List.all_eq_true.1 this j hj)
 have notdone: ∀listed:Array Bool,listed.size=l.length->listed.getD n false=false->Region.ready .any l.toArray listed=[]->False:=by
  intro listed hsz hl hr
  have all: ∀i,i<l.length->listed.getD i true=true:=by
   intro i
   induction i using Nat.strongRecOn with
   |_ i ih=>
    intro hi
    cases hli:listed.getD i true with
    |true=>rfl
    |false=>
     exfalso
     have:i∈Region.ready .any l.toArray listed:=by
      unfold Region.ready
      refine List.mem_filter.2 ⟨List.mem_range.2 (by simpa using hi),?_⟩
      have ho:l.toArray[i]? =some l[i]:=by simp[hi]
      rw[hli,ho]
      simp only[Bool.not_false,Bool.true_and,Option.map_some,Option.getD_some]
      rw[Array.all_eq_true_iff_forall_mem]
      intro e he
      by_cases hb:Region.binds .any e=true
      ·have hlt:=acyc i l[i] (by simp[hi]) e.on (List.mem_map.2 ⟨e,List.mem_filter.2 ⟨by simpa using he,hb⟩,rfl⟩)
       have:=ih e.on hlt (by omega)
       rw[getF _ _ (by omega)]at this
       simp[this]
      ·simp[hb]
     rw[hr]at this;cases this
  have:=all n (by omega)
  rw[getF _ _ (by omega),hl]at this;cases this
 have main: ∀fuel listed a w',Inv listed a w'->listed.size=l.length->(∀j o,listed.getD j false=true->l[j]? =some o-> ∀i∈BV o,listed.getD i false=true)->cnt listed<=fuel->wpAny P .any l.toArray Q fuel listed a w':=by
  intro fuel
  induction fuel with
  |zero=>
   intro listed a w' hI hsz hcs hc
   have hr:Region.ready .any l.toArray listed=[]:=by
    refine List.eq_nil_iff_forall_not_mem.2 λ i hi=>?_
    unfold Region.ready at hi
    have h2:=(List.mem_filter.1 hi).2
    have h1:=List.mem_range.1 (List.mem_filter.1 hi).1
    simp only[Bool.and_eq_true,Bool.not_eq_true']at h2
    have:=cset listed i (by simp at h1;omega) h2.1
    omega
   obtain⟨_,_,_,_,_,_,_,_,_,_,_,_,hl⟩:=hI
   exact(notdone listed hsz hl hr).elim
  |succ fuel ih=>
   intro listed a w' hI hsz hcs hc
   obtain⟨LL,M1,X,j,g1,g2,g3,g4,g5,g6,g7,g8,g9⟩:=hI
   refine⟨λ hr=>(notdone listed hsz g9 hr).elim,λ i hi=>?_⟩
   unfold Region.ready at hi
   have h2:=(List.mem_filter.1 hi).2
   have h1:i<l.length:=by simpa using List.mem_range.1 (List.mem_filter.1 hi).1
   have ho:l.toArray[i]? =some l[i]:=by simp[h1]
   have ho':l[i]? =some l[i]:=by simp[h1]
   rw[ho]at h2
   simp only[Bool.and_eq_true,Bool.not_eq_true',Option.map_some,Option.getD_some]at h2
   have hlisted: ∀j∈BV l[i],listed.getD j false=true:=by
    intro j hj
    obtain⟨e,he,rfl⟩:=List.mem_map.1 hj
    have he':=List.mem_filter.1 he
    have:=(Array.all_eq_true_iff_forall_mem.1 h2.2) e (by simpa using he'.1)
    rw[he'.2]at this
    simpa using this
   have hdep: ∀j∈BV l[i],ID Fs l LL M1 j:=λ j hj=>g5 _ (hlisted j hj)
   have hk:=J2.get hop ho'
   rw[Nat.zero_add]at hk
   unfold fX at hk
   by_cases hin:i=n
   ·rw[if_pos hin]at hk
    subst hin
    have hall: ∀k,k<i->listed.getD k false=true:=by
     have key: ∀d k,i=k+d->k<i->listed.getD k false=true:=by
      intro d
      induction d using Nat.strongRecOn with
      |_ d ihd=>
       intro k hd hk'
       obtain⟨q,hq,hq2⟩:=List.any_eq_true.1 (List.all_eq_true.1 hlast k (List.mem_range.2 hk'))
       have hq':=List.mem_range.1 hq
       simp only[Bool.and_eq_true]at hq2
       have hkq:k<q:=Nat.lt_of_lt_of_le (Nat.lt_succ_self k) (Nat.le_of_ble_eq_true hq2.1)
       have hoq:l[q]? =some (l[q]'(by omega)):=by simp
       have hb:=hq2.2
       rw[hoq]at hb
       by_cases hqi:q=i
       ·subst hqi;exact hlisted k (by simpa using hb)
       ·exact hcs q _ (ihd (i-q) (by omega) q (by omega) (by omega)) hoq k (by simpa using hb)
     exact λ k hk'=>key (i-k) k (by omega) hk'
    have hj:j=(fl.filter (·.isSome)).length:=by
     rcases Nat.lt_or_ge j (fl.filter (·.isSome)).length with h|h
     ·exfalso
      have:=(cnt' j).1 h
      obtain⟨k,hk1,hk2⟩:=List.getElem_of_mem (List.contains_iff_mem.1 this)
      have hfk:(fl[k]?).getD none=some j:=by simp[hk1,hk2]
      have:=(g7 k j hfk).1 (hall k (by omega))
      omega
     ·omega
    subst hj
    have hz:=hk LL w' M1 X g1 g2 g3 (λ k hk'=>g5 k (hall k hk')) g6 a g4
    refine tP ho hz λ a' w'' hq=>tQ ?_ fuel a' w'' hq
    refine List.eq_nil_iff_forall_not_mem.2 λ k hk'=>?_
    unfold Region.ready at hk'
    have k2:=(List.mem_filter.1 hk').2
    have k1:k<l.length:=by simpa using List.mem_range.1 (List.mem_filter.1 hk').1
    simp only[Bool.and_eq_true,Bool.not_eq_true']at k2
    have k3:=k2.1
    by_cases hki:k=i
    ·subst hki
     rw[Array.getD_eq_getD_getElem?]at k3
     simp[hsz,k1]at k3
    ·rw[Array.getD_eq_getD_getElem?,Array.getElem?_setIfInBounds_ne (Ne.symm hki),<-Array.getD_eq_getD_getElem?,getF _ _ (by omega),hall k (by omega)]at k3
     cases k3
   ·rw[if_neg hin]at hk
    have hcl:cnt (listed.setIfInBounds i true)<=fuel:=by have:=cset listed i (by omega) h2.1;omega
    have hnot:listed.getD i false=false:=by rw[<-getF _ _ (by omega)];exact h2.1
    have EG: ∀k,(listed.setIfInBounds i true).getD k false=true↔k=i\/listed.getD k false=true:=by
     intro k
     by_cases hki:k=i
     ·subst hki
      rw[Array.getD_eq_getD_getElem?]
      simp[hsz,h1]
     ·rw[Array.getD_eq_getD_getElem?,Array.getElem?_setIfInBounds_ne (Ne.symm hki),<-Array.getD_eq_getD_getElem?]
      simp[hki]
    have hcs': ∀j o,(listed.setIfInBounds i true).getD j false=true->l[j]? =some o-> ∀k∈BV o,(listed.setIfInBounds i true).getD k false=true:=by
     intro j' o' hj' ho2 k hk2
     refine(EG k).2 (.inr ?_)
     rcases(EG j').1 hj' with h|h
     ·subst h;rw[ho']at ho2;cases ho2;exact hlisted k hk2
     ·exact hcs j' o' h ho2 k hk2
    have hn':(listed.setIfInBounds i true).getD n false=false:=by
     cases h:(listed.setIfInBounds i true).getD n false with
     |false=>rfl
     |true=>
      rcases(EG n).1 h with h|h
      ·exact absurd h.symm hin
      ·rw[g9]at h;cases h
    have keepS: ∀LL' M2,HT Fs i l[i] LL LL' M2->Sub L LL':=by
     intro LL' M2 k4 t x ht
     unfold HT at k4
     cases hd:(l[i]).dst with
     |none=>rw[hd]at k4;subst k4;exact g3 t x ht
     |some d=>
      rw[hd]at k4
      obtain⟨g,v,rfl,_⟩:=k4
      have hne:d≠t:=by
       intro e;subst e
       exact base i d x (by simp[BO,h1,hd]) ht
      rw[HP hne];exact g3 t x ht
    have keepD: ∀LL' M2,M1.le M2->HT Fs i l[i] LL LL' M2-> ∀j,(listed.setIfInBounds i true).getD j false=true->ID Fs l LL' M2 j:=by
     intro LL' M2 k1 k4 j hj
     by_cases hji:j=i
     ·subst hji
      unfold ID
      unfold HT at k4
      cases hd:(l[j]).dst with
      |none=>simp[BO,h1,hd]
      |some d=>
       rw[hd]at k4
       obtain⟨g,v,rfl,hv⟩:=k4
       simp only[BO,ho',Option.bind_some,hd]
       exact⟨g,v,KL _ _ _ _,hv⟩
     ·have hj':listed.getD j false=true:=by
       rcases(EG j).1 hj with h|h
       ·exact absurd h hji
       ·exact h
      have hold:=g5 j hj'
      unfold ID at hold ⊢
      cases hdj:BO l j with
      |none=>trivial
      |some dj=>
       rw[hdj]at hold
       obtain⟨g,v,hl,hv⟩:=hold
       dsimp only
       refine⟨g,v,?_,(V4 Fs j).mono k1 hv⟩
       unfold HT at k4
       cases hd:(l[i]).dst with
       |none=>rw[hd]at k4;subst k4;exact hl
       |some d=>
        rw[hd]at k4
        obtain⟨g',v',rfl,_⟩:=k4
        have hne:d≠dj:=dist i j d dj (by simp[BO,h1,hd]) hdj (Ne.symm hji)
        rw[HP hne];exact hl
    cases hfl:(fl[i]?).getD none with
    |none=>
     rw[hfl]at hk
     refine YZ (K:=λ a' w'=> ∃LL' M2,M1.le M2/\St w0 M0 w' M2 (HsQ++X)/\AJ a' N LL'/\HT Fs i l[i] LL LL' M2) ho (hk LL w' M1 X g1 g2 g3 hdep a g4) ?_
     rintro a' w'' ⟨LL',M2,k1,k2,k3,k4⟩
     have hxp:XP st X0 j LL' M2 X:=by
      unfold XP at*
      cases j with
      |zero=>exact g6
      |succ j=>
       dsimp only at*
       cases hj:st[j]? with
       |none=>trivial
       |some y=>
        obtain⟨t,f⟩:=y
        rw[hj]at g6
        obtain⟨v,hl,hx⟩:=g6
        refine⟨v,?_,f.mono k1 hx⟩
        unfold HT at k4
        cases hd:(l[i]).dst with
        |none=>rw[hd]at k4;subst k4;exact hl
        |some d=>
         rw[hd]at k4
         obtain⟨g',v',rfl,_⟩:=k4
         by_cases hne:d=t
         ·exfalso;subst hne
          have hm1:d∈ts:=by
           rw[<-hts];exact List.mem_map.2 ⟨(d,f),List.mem_of_getElem? hj,rfl⟩
          obtain⟨k,hk1,hk2⟩:=List.any_eq_true.1 (List.all_eq_true.1 htl d hm1)
          simp only[Bool.and_eq_true,beq_iff_eq]at hk2
          have hki:i≠k:=by intro e;subst e;rw[hfl]at hk2;cases hk2.2
          exact dist i k d d (by simp[BO,h1,hd]) hk2.1 hki U
         ·rw[HP hne];exact hl
     refine ih _ a' w'' ⟨LL',M2,X,j,g1.trans k1,k2,keepS LL' M2 k4,k3,keepD LL' M2 k1 k4,hxp,?_,g8,hn'⟩ (by simp[hsz]) hcs' hcl
     intro k i' hki
     rw[EG k]
     have hne:k≠i:=by intro e;subst e;rw[hfl]at hki;cases hki
     simp only[hne,false_or]
     exact g7 k i' hki
    |some i0=>
     rw[hfl]at hk
     have hij:i0=j:=by
      have hnl: ¬i0<j:=λ h=>by have:=(g7 i i0 hfl).2 h;rw[hnot]at this;cases this
      cases i0 with
      |zero=>omega
      |succ i1=>
       obtain⟨k',hk1,hk2⟩:=prev i i1 l[i] ho' hfl
       have:=(g7 k' i1 hk2).1 (hlisted k' hk1)
       omega
     subst hij
     refine YZ (K:=λ a' w'=> ∃LL' M2 X',M1.le M2/\St w0 M0 w' M2 (HsQ++X')/\AJ a' N LL'/\HT Fs i l[i] LL LL' M2/\XP st X0 (i0+1) LL' M2 X') ho (hk LL w' M1 X g1 g2 g3 hdep g6 a g4) ?_
     rintro a' w'' ⟨LL',M2,X',k1,k2,k3,k4,k5⟩
     refine ih _ a' w'' ⟨LL',M2,X',i0+1,g1.trans k1,k2,keepS LL' M2 k4,k3,keepD LL' M2 k1 k4,k5,?_,?_,hn'⟩ (by simp[hsz]) hcs' hcl
     ·intro k i' hki
      rw[EG k]
      by_cases hne:k=i
      ·subst hne;rw[hfl]at hki;cases hki;simp
      ·simp only[hne,false_or]
       rw[g7 k i' hki]
       have:i'≠i0:=λ e=>hne (inj k i i' hki (by rw[hfl,e]))
       omega
     ·have:fl.contains (some i0)=true:=by
       rw[List.contains_iff_mem]
       have hlt:i<fl.length:=by
        rcases Nat.lt_or_ge i fl.length with h|h
        ·exact h
        ·simp[h]at hfl
       have:fl[i]=some i0:=by simpa[hlt]using hfl
       exact this▸List.getElem_mem hlt
      have:=(cnt' i0).2 this
      omega
 have hz: ∀j,(Array.replicate l.toArray.size false).getD j false=false:=by
  intro j
  rcases Nat.lt_or_ge j l.length with h|h
  ·simp[Array.getD,h]
  ·simp[Array.getD,h]
 refine main _ _ a _ ⟨L,M,X0,0,Mem.le.refl _,hS.ext (Ext.drew w),Sub.refl,hs,?_,rfl,?_,Nat.zero_le _,hz n⟩ (by simp) (λ j o hj=>by rw[hz j]at hj;cases hj) ?_
 ·intro j hj;rw[hz j]at hj;cases hj
 ·intro k i _;rw[hz k];simp
 ·have:cnt (Array.replicate l.toArray.size false)<=l.toArray.size:=by
   simp only[cnt,Array.toList_replicate]
   have:=List.length_filter_le (λ x:Bool=> !x) (List.replicate l.toArray.size false)
   simp
  simpa using this
theorem CW.scope {P:Program}{Q:Exit->Act->World->Prop}{N:Nat}{L:Env}{w:World}{c:Code}(h:CW P c (Exit.noGoto Q) N L w):CW P (.scope c) Q N L w:=λ a hs=>wp_scope_straight (h a hs)
def DR(r:Int):A1:=(Utf8.encode r).data.toList
theorem PV.tS {P:Program}{C:World->Prop}{L:Env}{W:Bool}{d:Option Tmp}{ty:TypeId}{ps:String}{af:Array Edge}{gd:Option (Nat×Bool)}{s t:TypeId}{x:Operand}{k:IntKind}{a:Int}(hx:A8 L W x (.int k a))(hs:P.underlying s=some (.int k))(ht:P.underlying t=some .string):PV P C L W ⟨d,.convert s t x,ty,ps,af,gd⟩ (str (DR a)):=
 .un (f:=convert s t) (λ _=>rfl) hx λ _ w _=>run_convert_int_string w s t k a (by rw[hs];rfl) ht
theorem tT{r:Int}(hv:Utf8.valid r=true)(h:128<=r):2<=len (DR r)/\len (DR r)<=4/\128<=A2 (DR r) (len (DR r)-1):=by
 obtain⟨h1,h2,h3⟩:=encode_facts r hv h
 have hl:len (DR r)=((Utf8.encode r).size:Int):=rfl
 refine⟨by omega,by omega,?_⟩
 have h4:=h3 (by omega)
 have hk:(len (DR r)-1).toNat=(Utf8.encode r).size-1:=by omega
 unfold A2
 rw[hk]
 have h5:(Utf8.encode r).size-1<(DR r).length:=by have:(DR r).length=(Utf8.encode r).size:=rfl;omega
 have:(DR r).getD ((Utf8.encode r).size-1) 0=(Utf8.encode r)[(Utf8.encode r).size-1]'(by omega):=by
  rw[List.getD_eq_getElem?_getD,List.getElem?_eq_getElem h5];rfl
 rw[this];omega
end Go.Eng
