/- Lemmas for the card. -/
import Derived.Test.YtmjpjbmeamnfpaaGreatDoorZf2
import Derived.Lib.SmallJoins
import Derived.Shelf.Strings.SlTrimAscii
import Derived.Test.YtmjpjbmeamnfpaaGreatDoorCards
import Derived.Test.YtmjpjbmeamnfpaaGreatDoorTie
import Derived.Deep.DeepWitnessRowRef
import Derived.Lib.LaidU8T
import Derived.Lib.LaidIn
import Derived.Lib.TrailingZeros
import Derived.Stop.LaidErr
set_option linter.unusedVariables false
set_option linter.unusedSimpArgs false
namespace Go.Eng
open Go.RowKit Go.Lib
theorem zb:(∀a b:Bool,((a&&b)=true)=(a=true/\b=true))/\(∀a b:Bool,((a||b)=true)=(a=true\/b=true))/\(∀x y:Bool,(x&&y)=false↔x=false\/y=false)/\(∀x y:Bool,(x||y)=false↔x=false/\y=false)/\
  (∀(p:Prop) [Decidable p],(decide p=true)=p)/\(∀(p:Prop) [Decidable p],decide p=false↔ ¬p)/\(∀b:Bool,((!b)=true)=(b=false))/\(∀b:Bool,((!b)=false)=(b=true))/\
  (∀(α:Type) [BEq α] [LawfulBEq α] (a b:α),(a==b)=true↔a=b)/\(∀(α:Type) [BEq α] [LawfulBEq α] (a b:α),(a==b)=false↔a≠b)/\(∀(α:Type) [BEq α] [LawfulBEq α] (a b:α),(a != b)=true↔a≠b)/\(∀(α:Type) (a b:α),(a≠b)= ¬a=b)/\
  (∀a b:Bool,(!a)=b↔a= !b)/\((!true)=false)/\((!false)=true)/\(∀(α:Type) [BEq α] [LawfulBEq α] (a b:α),(a != b)=false↔a=b)/\(∀b:Bool,(¬b=true)=(b=false))/\(∀b:Bool,(¬b=false)=(b=true))/\(∀p:Prop,(p/\True)=p):=
 ⟨Bool.and_eq_true,Bool.or_eq_true,λ _ _=>Bool.and_eq_false_iff,λ _ _=>Bool.or_eq_false_iff,λ _=>decide_eq_true_eq,λ _=>decide_eq_false_iff_not,Bool.not_eq_true',Bool.not_eq_false',λ _ _ _ _ _=>beq_iff_eq,λ _ _ _ _ _=>beq_eq_false_iff_ne,λ _ _ _ _ _=>bne_iff_ne,
  λ _=>ne_eq,λ _ _=>Bool.not_eq_eq_eq_not,rfl,rfl,λ _ _ _ _ _=>bne_eq_false_iff_eq,Bool.not_eq_true,Bool.not_eq_false,and_true⟩
abbrev Y(k:Nat)(v:Value):Nat×Bool×Value:=(k,true,v)
theorem CW.at {P:Program}{N:Nat}{L:Env}{w:World}{y:Code}{Q':Exit->Act->World->Prop}(L':Env)(hk:Eng.BC (O4 L') L=L')(h:CW P y Q' N L' w): ∀a,AJ a N L->y.wp P Q' a w:=CW.on _ hk h
theorem CW.sr {P:Program}{Q:Exit->Act->World->Prop}{N:Nat}{L:Env}{w:World}{id:Nat}{l:List Oper}{y:Code}(h:RL P l.toArray (Exit.then (y.wp P Q) Q) N l L w):CW P (.seq (.region id l.toArray false) y) Q N L w:=Ag (CW.region h)
theorem Ad {P:Program}{Q:Exit->Act->World->Prop}{N:Nat}{L:Env}{w:World}{id:Nat}{l:List Oper}{y:Code}(h:RL P l.toArray (Exit.then (y.wp P Q) Q) N l L w):CW P (.seq (.region id l.toArray false) y) Q N L w:=Ag (CW.region h)
section
variable {P:Program} {ops:Array Oper} {Q:Exit->Act->World->Prop} {N:Nat} {rest:List Oper} {L:Env} {w:World} {d k:Nat} {op:Op} {ty:TypeId} {ps:String} {af:Array Edge} {v:Value}
theorem RL.u (hp:PV P (· =w) L true ⟨some d,op,ty,ps,af,none⟩ v)(hd:Nat.blt d N=true)(h:RL P ops Q N rest ((d,true,v)::L) w):RL P ops Q N (⟨some d,op,ty,ps,af,none⟩::rest) L w:=RL.v .none hp hd h
theorem Ab (hp:PV P (· =w) L true ⟨some d,op,ty,ps,af,none⟩ v)(hd:Nat.blt d N=true)(h:RL P ops Q N rest ((d,true,v)::L) w):RL P ops Q N (⟨some d,op,ty,ps,af,none⟩::rest) L w:=RL.v .none hp hd h
theorem RL.m (hl:look L k=some (true,v))(hd:Nat.blt d N=true)(h:RL P ops Q N rest ((d,true,v)::L) w):RL P ops Q N (⟨some d,.move (.tmp k),ty,ps,af,none⟩::rest) L w:=RL.v .none (.move (.t hl)) hd h
theorem Ae (hl:look L k=some (true,v))(hd:Nat.blt d N=true)(h:RL P ops Q N rest ((d,true,v)::L) w):RL P ops Q N (⟨some d,.move (.tmp k),ty,ps,af,none⟩::rest) L w:=RL.v .none (.move (.t hl)) hd h
theorem RL.a (hl:look L k=some (true,v))(hd:Nat.blt d N=true)(h:RL P ops Q N rest ((d,true,v)::L) w):RL P ops Q N (⟨some d,.assign (.tmp k),ty,ps,af,none⟩::rest) L w:=RL.v .none (.assign (.t hl)) hd h
theorem Aj (hl:look L k=some (true,v))(hd:Nat.blt d N=true)(h:RL P ops Q N rest ((d,true,v)::L) w):RL P ops Q N (⟨some d,.assign (.tmp k),ty,ps,af,none⟩::rest) L w:=RL.v .none (.assign (.t hl)) hd h
end
structure Ends (P:Program) (fn:Func) (R:Ending->World->Prop) (Q:Exit->Act->World->Prop):Prop where
 all: ∀e a w,bodyPost P fn R e a w->Q e a w
theorem CW.BH {P:Program}{N:Nat}{w:World}{f:FuncId}{fn:Func}{c:Code}{vs:List Value}{R:Ending->World->Prop}(hf:P.funcs[f]? =some fn)(hb:fn.body=some c)(hn:fn.ntmps=N)(hl:vs.length<=N)
 (h: ∀Q,Ends P fn R Q->CW P c Q N (MZ 0 vs) w):Calls P f vs.toArray w R:=CW.enter hf hb hn hl (h _ ⟨λ _ _ _ h=>h⟩)
section
variable {P:Program} {fn:Func} {R:Ending->World->Prop} {Q:Exit->Act->World->Prop} {N:Nat} {L:Env} {w:World} {t u s:Tmp} {a b c:ResultVar} {v x y:Value}
theorem Ends.e0 (E:Ends P fn R Q)(hr:fn.results= #[])(h:R (.returned (.tuple #[])) w): ∀a,AJ a N L->Q .normal a w:=λ a hs=>E.all _ _ _ (sT hr h a hs)
theorem Ends.r1 (E:Ends P fn R Q)(hr:fn.results= #[.tmp t])(hl:look L t=some (true,v))(h:R (.returned v) w): ∀a,AJ a N L->Q .ret a w:=λ a hs=>E.all _ _ _ (sG hr hl h a hs)
theorem Ends.r2 (E:Ends P fn R Q)(hr:fn.results= #[.tmp t,.tmp u])(hl:look L t=some (true,v))(hl2:look L u=some (true,x))(h:R (.returned (.tuple #[v,x])) w): ∀a,AJ a N L->Q .ret a w:=λ a hs=>E.all _ _ _ (sH hr hl hl2 h a hs)
theorem Ends.r3 (E:Ends P fn R Q)(hr:fn.results= #[.tmp t,.tmp u,.tmp s])(hl:look L t=some (true,v))(hl2:look L u=some (true,x))(hl3:look L s=some (true,y))(h:R (.returned (.tuple #[v,x,y])) w): ∀a,AJ a N L->Q .ret a w:=λ a hs=>E.all _ _ _ (sI hr hl hl2 hl3 h a hs)
theorem Ends.R3 (E:Ends P fn R Q)(hr:fn.results= #[a,b,c])(h1:RV P L w a v)(h2:RV P L w b x)(h3:RV P L w c y)(h:R (.returned (.tuple #[v,x,y])) w): ∀a,AJ a N L->Q .ret a w:=λ a hs=>E.all _ _ _ (sO hr h1 h2 h3 h a hs)
end
theorem CW.id {P:Program}{N:Nat}{L:Env}{w:World}{y:Code}{Q':Exit->Act->World->Prop}(h:CW P y Q' N L w): ∀a,AJ a N L->y.wp P Q' a w:=h
theorem Ac {P:Program}{N:Nat}{L:Env}{w:World}{y:Code}{Q':Exit->Act->World->Prop}(h:CW P y Q' N L w): ∀a,AJ a N L->y.wp P Q' a w:=h
theorem CW.V5 {P:Program}{σ:Type}{x y:Code}{Q:Exit->Act->World->Prop}{N:Nat}{L:Env}{w:World}(Lf:σ->Env)(I:σ->World->Prop)(hx:CW P x (Exit.then (λ a' w'=> ∃s,AJ a' N (Lf s)/\I s w') Q) N L w)
  (hy: ∀s w',I s w'->CW P y Q N (Lf s) w'):CW P (.seq x y) Q N L w:=by
 refine Ag λ a hs=>wp_mono (hx a hs) λ e a' w' h=>?_
 cases e with
 |normal=>obtain⟨s,h1,h2⟩:=h;exact hy s w' h2 a' h1
 |exit id=>exact h
 |goto l=>exact h
 |ret=>exact h
 |panic ch=>exact h
 |outgrown=>exact h
def tU:TypeDesc->Bool| .interface _=>false|_=>true
section pv
variable {P:Program} {C:World->Prop} {L:Env} {W:Bool} {d:Option Tmp} {ty:TypeId} {ps:String} {af:Array Edge} {gd:Option (Nat×Bool)} {w0 w:World} {M0 M:Mem} {Hs:List HO}
theorem PV.iface {t:TypeId}{x:Operand}{v:Value}{u:TypeDesc}(hx:A8 L W x v)(ht:P.underlying t=some u)(hn:tU u=true):PV P C L W ⟨d,.makeInterface t x,ty,ps,af,gd⟩ (.iface t v):=
 .un (f:=Instr.makeInterface t) (λ _=>rfl) hx λ _ w _=>by
  simp only[Instr.makeInterface,Sem.run_bind,run_underlying ht,Result.andThen_ok]
  cases u<;>first|rfl|(exact absurd hn (by decide))|(cases hn)
theorem PV.V6 {t e:TypeId}{x y:Operand}{n b:Nat}{k:IntKind}{i:Int}(j:Nat)(hx:A8 L W x (.pointer (some ⟨b,0,none⟩)))(hy:A8 L W y (.int k i))(ht:P.underlying t=some (.array n e))(hs: ∀w,(sizeOf e).run P w= .ok 1 w)
  (hi:W=true->i=(j:Int)) (hj:Nat.blt j n=true):PV P C L W ⟨d,.indexAddr t x y,ty,ps,af,gd⟩ (.pointer (some ⟨b,j,none⟩)):=by
 intro a N hsl hW w' hw'
 have hjn:j<n:=Nat.le_of_ble_eq_true hj
 have hi':=hi hW
 subst hi'
 have hc:0<=(j:Int)/\(j:Int)<(n:Int):=by omega
 have key:(Instr.indexAt t (.pointer (some ⟨b,0,none⟩)) (.int k (j:Int))).run P w'= .ok (.pointer (some ⟨b,j,none⟩)) w':=by
  simp only[Instr.indexAt,asIntOf,Sem.run_bind,Sem.run_pure,run_underlying ht,Result.andThen_ok,Instr.sureAddr,hs,hc,and_self,if_true,Int.toNat_natCast,Nat.mul_one,H8,Nat.zero_add]
 simp only[execOp,hx a N hsl hW,hy a N hsl hW]
 rw[Sem.run_bind,key];rfl
theorem PV.tV {t e:TypeId}{x y:Operand}{n b:Nat}{k:IntKind}{i:Int}(j m:Nat)(hx:A8 L W x (.pointer (some ⟨b,0,none⟩)))(hy:A8 L W y (.int k i))(ht:P.underlying t=some (.array n e))(hs: ∀w,(sizeOf e).run P w= .ok 1 w)
  (hi:W=true->i=(j:Int)) (hj:Nat.blt j n=true) (hm:n-j=m):PV P C L W ⟨d,.slice t x (some y) none none,ty,ps,af,gd⟩ (.slice (some ⟨b,j,none⟩) m m):=by
 intro a N hsl hW w' hw'
 have hjn:j<n:=Nat.le_of_ble_eq_true hj
 have hi':=hi hW
 subst hi';subst hm
 have hc:0<=(j:Int)/\(j:Int)<=(n:Int):=by omega
 have hne: ¬n=j:=by omega
 have key:(Instr.sliceAt t (.pointer (some ⟨b,0,none⟩)) (some (.int k (j:Int))) none none).run P w'= .ok (.slice (some ⟨b,j,none⟩) (n-j) (n-j)) w':=by
  simp only[Instr.sliceAt,Sem.run_bind,Sem.run_pure,run_underlying ht,Result.andThen_ok,Instr.sureAddr,Instr.sliceBounds,Instr.sliceBound,asIntOf,hs,hc,and_self,if_true,Int.toNat_natCast,Nat.mul_one,H8,Nat.zero_add,hne,if_false]
 simp only[execOp,hx a N hsl hW,Option.map_some,Option.map_none,hy a N hsl hW]
 rw[Sem.run_bind,key];rfl
theorem PV.tW {src dst e t':TypeId}{x:Operand}{l:List Int}{cs:List Value}{i b o n cap:Nat}(hS:St w0 M0 w M Hs)(hC: ∀w',C w'->Ext w w')(hi:Hs[i]? =some (.box b cs t'))(hx:A8 L W x (.slice (some ⟨b,o,none⟩) n cap))
  (hn:n=l.length) (hc:(cs.drop o).take n=l.map (Value.int .u8)) (hs:P.underlying src=some (.slice e)) (he:P.underlying e=some (.int .u8)) (hd:P.underlying dst=some .string):PV P C L W ⟨d,.convert src dst x,ty,ps,af,gd⟩ (str (toStr l)):=by
 subst hn
 intro a N hsl hW w' hw'
 have hcell: ∀j v',(l.map (Value.int .u8))[j]? =some v'->w'.cell? ((⟨b,o,none⟩:Addr).add j)=some v':=by
  intro j v' hj
  rw[H8]
  refine hS.cell (hC w' hw') hi ?_
  rw[<-hc,List.getElem?_take,List.getElem?_drop]at hj
  split at hj
  ·exact hj
  ·cases hj
 have hload:=run_loadCells_list (P:=P) w' ⟨b,o,none⟩ (l.map (Value.int .u8)) hcell
 rw[List.length_map]at hload
 have key:(convert src dst (.slice (some ⟨b,o,none⟩) l.length cap)).run P w'= .ok (str (toStr l)) w':=by
  rw[run_convert_bytes_string w' src dst e (some ⟨b,o,none⟩) l.length cap hs he hd,run_bytesToString w' ⟨b,o,none⟩ l.length cap l hload,foldl_push]
  simp[str]
 simp only[execOp,hx a N hsl hW]
 rw[Sem.run_bind,key];rfl
end pv
section rl
variable {P:Program} {ops:Array Oper} {Q:Exit->Act->World->Prop} {N:Nat} {rest:List Oper} {L:Env} {w0 w:World} {M0 M:Mem} {Hs:List HO} {d:Nat} {ty:TypeId} {ps:String} {af:Array Edge}
theorem RL.st {t t':TypeId}{x y:Operand}{i b o n:Nat}{cs cs':List Value}{v:Value}(hS:St w0 M0 w M Hs)(hi:Hs[i]? =some (.box b cs t'))(hx:A8 L true x (.pointer (some ⟨b,o,none⟩)))(hy:A8 L true y v)(hs: ∀w,(sizeOf t).run P w= .ok n w)
 (hn:v.cells.toList.length=n) (hfit:Nat.ble (o+n) cs.length=true) (h1:(v.cells.toList.all (·.oneCell'))=true) {Hs':List HO} (hHs:Hs.set i (.box b cs' t')=Hs') (hcs:GH cs o v.cells.toList=cs')
 (h: ∀w',St w0 M0 w' M Hs'->RL P ops Q N rest L w'):RL P ops Q N (⟨none,.store t x y,ty,ps,af,none⟩::rest) L w:=RL.YK hS hi hx hy hs hn hfit h1 hcs hHs h
theorem RL.bytes {s:A1}{src dst e:TypeId}{x:Operand}(hS:St w0 M0 w M Hs)(hx:A8 L true x (str s))(hs:P.underlying src=some .string)(ht:P.underlying dst=some (.slice e))(he:P.underlying e=some (.int .u8))(hl:len s<=140737488355328)(hd:Nat.blt d N=true)
  (h: ∀v w' M',St w0 M0 w' M' Hs->M.le M'->Sl M' 1 (ints s).length v ((ints s).flatMap AQ)->RL P ops Q N rest ((d,true,v)::L) w'):RL P ops Q N (⟨some d,.convert src dst x,ty,ps,af,none⟩::rest) L w:=by
 intro a hsl
 refine wpList_plain U λ K hK=>?_
 have hsz:(ByteArray.mk ⟨s⟩).size=s.length:=rfl
 have hlen:(ints s).length=s.length:=by unfold ints;simp
 have key:(execOp a.eval ⟨some d,.convert src dst x,ty,ps,af,none⟩).run P w= .ok (.value (.slice (some ⟨w.heap.size,0,none⟩) s.length (grownCap w s.length 0 e))) (bytesWorld w e ⟨⟨s⟩⟩):=by
  simp only[execOp,hx a N hsl U]
  rw[Sem.run_bind,Go.Lib.run_convert_string_bytes w src dst e ⟨⟨s⟩⟩ hs ht he];rfl
 simp only[Oper.wp,key,Oper.upon_value]
 have hcell: ∀j,j<s.length->(bytesWorld w e ⟨⟨s⟩⟩).cell? ⟨w.heap.size,j,none⟩=((ints s).flatMap AQ)[j]?:=by
  intro j hj
  rw[bytesWorld_cell w e ⟨⟨s⟩⟩ j hj,SJ]
  unfold ints
  simp[hj,List.getD]
 have hfl:((ints s).flatMap AQ).length=s.length:=by rw[SJ];simp[hlen]
 have g:Grow w M (bytesWorld w e ⟨⟨s⟩⟩) (J0 M w.heap.size ((ints s).flatMap AQ)):=by
  have hE:Ext w (bytesWorld w e ⟨⟨s⟩⟩):=Joins.below_bytesWorld _ _ _ _ (Nat.le_refl _)
  refine⟨hE,⟨λ b o v hv=>?_⟩,λ b o hb=>?_⟩
  ·unfold J0 at hv
   split at hv
   ·rename_i hb;subst hb
    have ho:o<s.length:=by
     rcases Nat.lt_or_ge o s.length with h'|h'
     ·exact h'
     ·rw[List.getElem?_eq_none (by omega)]at hv;cases hv
    rw[hcell o ho];exact hv
   ·exact(hS.sat.ext hE).cell b o v hv
  ·unfold J0
   rw[if_neg (by omega)]
 refine hK _ _ (h _ _ _ (hS.grow g) (g.le hS.sat) ?_ _ (hsl.put hd true _))
 have hge:=grownCap_ge w s.length 0 e
 have hcm:grownCap w s.length 0 e<=maxLen:=grownCap_le_maxLen w s.length 0 e (by unfold len at hl;simp only[maxLen];omega)
 refine⟨by rw[hfl,hlen,Nat.mul_one],_,_,by rw[hlen],by rw[hlen];exact hge,hcm,λ _=>⟨_,_,rfl,λ j hj=>?_⟩⟩
 unfold J0
 rw[if_pos U,Nat.zero_add]
end rl
end Go.Eng
set_option maxRecDepth 100000
namespace Go.Proofs.YtmjpjbmeamnfpaaGreatDoor
open Go.Proofs.Tryz
open Go.Eng
theorem N6:prog.follows .mixedOrders=true:=by kernel_rfl
theorem QT(s:A1)(i:Int)(w:World)(h0:0<=i):
  Calls prog 133 [(str s),(i64 i)].toArray w λ e w'=>e= .returned (.bool (cont s i))/\w'=w:=by
 refine CW.BH func133 U ntmps133 (Nat.le_of_ble_eq_true U) λ Q hE=>?_
 refine An [0,1] (L':=[Y 0 (str s),Y 1 (i64 i)]) ?_ U
 refine Ad (Ab (.assign .c) U (Aa (Ac (Ad ?_))))
 refine Ae U U (Ae U U (Ab (.BR (.t U) underlying9) U (Ab (.lss (.t U) (.t U)) U (Ae U U (RL.v (.pos U U) (.move (.t U)) U ?_)))))
 refine RL.v (.pos U U) (.move (.t U)) U (RL.v (.pos U U) (.C2 (.g U (λ h=>h)) (.g U (λ h=>h)) underlying9 (λ hW=>by simp only[zb]at hW;omega)) U (RL.v (.pos U U) (.geq (.g U (λ h=>h)) .c) U (Ab (.and (.t U) (.g U (λ h=>h))) U (Ae U U (RL.v (.pos U U) (.move (.t U)) U ?_)))))
 refine RL.v (.pos U U) (.move (.t U)) U (RL.v (.pos U U) (.C2 (.g U (λ h=>h)) (.g U (λ h=>h)) underlying9 (λ hW=>by simp only[zb]at hW;omega)) U (RL.v (.pos U U) (.lss (.g U (λ h=>h)) .c) U (Ab (.and (.t U) (.g U (λ h=>h))) U (Aj U U (Aa (Ac ?_))))))
 refine Ah (hE.r1 U U ?_)
 exact⟨rfl,rfl⟩
theorem fY(s:A1)(i:Int)(w:World)(h0:0<=i)(h1:i<len s)(hb:len s<=9223372036854775807):
  Calls prog 88 [(str s),(i64 i)].toArray w λ e w'=>e= .returned (i64 (rune s i))/\w'=w:=by
 refine CW.BH func88 U ntmps88 (Nat.le_of_ble_eq_true U) λ Q hE=>?_
 have hbd:=LQ s i
 refine An [0,1] (L':=[Y 0 (str s),Y 1 (i64 i)]) ?_ U
 refine Ad (Ab (.assign .c) U (Aa (Ac (Ad ?_))))
 refine Ae U U (Ae U U (Ab (.C2 (.t U) (.t U) underlying9 (λ _=>by omega)) U (Aj U U (Aa (Ac ?_)))))
 refine Ag (Am (Ad (Ae U U (Ab (.lss (.t U) .c) U (Aj U U (Aa (Ac ?_)))))))
 refine Af rfl ?_ ?_<;>intro hb1<;>try simp only[zb]at hb1
 ·refine Ad (Ab (.assign .c) U (Aa (Ac (Ah (hE.r1 U U ?_)))))
  clear hE
  refine⟨congrArg (λ x=>Ending.returned (i64 x)) ?_,rfl⟩
  unfold rune;(try dsimp only);(repeat' split)
  all_goals first|rfl|(exfalso;simp only[zb]at*;omega)|(exfalso;simp_all;done)|(exfalso;simp_all;omega)
 ·refine Ad (Ae U U (Ab (.geq (.t U) .c) U (Ae U U (RL.v (.pos U U) (.move (.t U)) U (RL.v (.pos U U) (.lss (.g U (λ h=>h)) .c) U (Ab (.and (.t U) (.g U (λ h=>h))) U (Ae U U (RL.v (.pos U U) (.move (.t U)) U (RL.v (.pos U U) (.move (.t U)) U (RL.v (.pos U U) (.add (.g U (λ h=>h)) .c (λ hW=>by simp only[zb]at hW;first|omega|(unfold cont at*;simp only[zb]at*;omega))) U ?_))))))))))
  refine RL.DC (.pos U U) call133 (.cons (.g U (λ h=>h)) (.cons (.g U (λ h=>h)) .nil)) (λ hW=>by simp only[zb]at hW;exact(QT s (i+1) _ (by omega))) U ?_
  refine Ab (.and (.t U) (.g U (λ h=>h))) U (Aj U U ?_)
  refine Aa (CW.at [Y 0 (str s),Y 1 (i64 i),Y 5 (.int .u8 (A2 s i)),Y 12 (.bool (((decide (194<=(A2 s i)))&&(decide ((A2 s i)<224)))&&(cont s (i+1))))] U ?_)
  refine Af rfl ?_ ?_<;>intro hb2<;>try simp only[zb]at hb2
  ·refine Ad (Ab (.assign .c) U (Aa (Ac (Ah (hE.r1 U U ?_)))))
   clear hE
   refine⟨congrArg (λ x=>Ending.returned (i64 x)) ?_,rfl⟩
   unfold rune;(try dsimp only);(repeat' split)
   all_goals first|rfl|(exfalso;simp only[zb]at*;omega)|(exfalso;simp_all;done)|(exfalso;simp_all;omega)
  ·refine Ad (Ae U U (Ab (.geq (.t U) .c) U (Ae U U (RL.v (.pos U U) (.move (.t U)) U (RL.v (.pos U U) (.lss (.g U (λ h=>h)) .c) U (Ab (.and (.t U) (.g U (λ h=>h))) U (Ae U U (RL.v (.pos U U) (.move (.t U)) U (RL.v (.pos U U) (.move (.t U)) U (RL.v (.pos U U) (.add (.g U (λ h=>h)) .c (λ hW=>by simp only[zb]at hW;first|omega|(unfold cont at*;simp only[zb]at*;omega))) U ?_))))))))))
   refine RL.DC (.pos U U) call133 (.cons (.g U (λ h=>h)) (.cons (.g U (λ h=>h)) .nil)) (λ hW=>by simp only[zb]at hW;exact(QT s (i+1) _ (by omega))) U ?_
   refine Ab (.and (.t U) (.g U (λ h=>h))) U (Ae U U (RL.v (.pos U U) (.move (.t U)) U (RL.v (.pos U U) (.move (.t U)) U (RL.v (.pos U U) (.add (.g U (λ h=>h)) .c (λ hW=>by simp only[zb]at hW;first|omega|(unfold cont at*;simp only[zb]at*;omega))) U ?_))))
   refine RL.DC (.pos U U) call133 (.cons (.g U (λ h=>h)) (.cons (.g U (λ h=>h)) .nil)) (λ hW=>by simp only[zb]at hW;exact(QT s (i+2) _ (by omega))) U ?_
   refine Ab (.and (.t U) (.g U (λ h=>h))) U (Aj U U ?_)
   refine Aa (CW.at [Y 0 (str s),Y 1 (i64 i),Y 5 (.int .u8 (A2 s i)),Y 25 (.bool ((((decide (224<=(A2 s i)))&&(decide ((A2 s i)<240)))&&(cont s (i+1)))&&(cont s (i+2))))] U ?_)
   refine Af rfl ?_ ?_<;>intro hb3<;>try simp only[zb]at hb3
   ·refine Ag (Ad (Ae U U (Ab (.eql (.t U) .c) U (Ae U U (RL.v (.pos U U) (.move (.t U)) U (RL.v (.pos U U) (.move (.t U)) U (RL.v (.pos U U) (.add (.g U (λ h=>h)) .c (λ hW=>by simp only[zb]at hW;first|omega|(unfold cont at*;simp only[zb]at*;omega))) U (RL.v (.pos U U) (.C2 (.g U (λ h=>h)) (.g U (λ h=>h)) underlying9 (λ hW=>by simp only[zb]at hW;first|omega|(unfold cont at*;simp only[zb]at*;omega))) U (RL.v (.pos U U) (.lss (.g U (λ h=>h)) .c) U (Ab (.and (.t U) (.g U (λ h=>h))) U (Ae U U (RL.v (.neg U U) (.move (.t U)) U (RL.v (.neg U U) (.eql (.g U (λ h=>h)) .c) U ?_)))))))))))))
    refine RL.v (.neg U U) (.move (.g U (λ h=>h))) U (RL.v (.DY U U) (.move (.t U)) U (RL.v (.DY U U) (.move (.t U)) U (RL.v (.DY U U) (.add (.g U (λ h=>h)) .c (λ hW=>by simp only[zb]at hW;first|omega|(unfold cont at*;simp only[zb]at*;omega))) U (RL.v (.DY U U) (.C2 (.g U (λ h=>h)) (.g U (λ h=>h)) underlying9 (λ hW=>by simp only[zb]at hW;first|omega|(unfold cont at*;simp only[zb]at*;omega))) U (RL.v (.DY U U) (.geq (.g U (λ h=>h)) .c) U ?_)))))
    refine RL.v (.neg U U) (.and (.g U (λ h=>h)) (.g U (λ h=>h))) U (Ab (.or (.t U) (.g U (λ h=>h))) U (Aa (Ac ?_)))
    refine Af rfl ?_ ?_<;>intro hb4<;>try simp only[zb]at hb4
    ·refine Ad (Ab (.assign .c) U (Aa (Ac (Ah (hE.r1 U U ?_)))))
     clear hE
     refine⟨congrArg (λ x=>Ending.returned (i64 x)) ?_,rfl⟩
     unfold rune;(try dsimp only);(repeat' split)
     all_goals first|rfl|(exfalso;simp only[zb]at*;omega)|(exfalso;simp_all;done)|(exfalso;simp_all;omega)
    ·refine Ai (Ac (Ad (Ab (.assign .c) U (Aa (Ac ?_)))))
     refine Ah (hE.r1 U U ?_)
     clear hE
     refine⟨congrArg (λ x=>Ending.returned (i64 x)) ?_,rfl⟩
     unfold rune;(try dsimp only);(repeat' split)
     all_goals first|rfl|(exfalso;simp only[zb]at*;omega)|(exfalso;simp_all;done)|(exfalso;simp_all;omega)
   ·refine Ad (Ae U U (Ab (.geq (.t U) .c) U (Ae U U (RL.v (.pos U U) (.move (.t U)) U (RL.v (.pos U U) (.lss (.g U (λ h=>h)) .c) U (Ab (.and (.t U) (.g U (λ h=>h))) U (Ae U U (RL.v (.pos U U) (.move (.t U)) U (RL.v (.pos U U) (.move (.t U)) U (RL.v (.pos U U) (.add (.g U (λ h=>h)) .c (λ hW=>by simp only[zb]at hW;first|omega|(unfold cont at*;simp only[zb]at*;omega))) U ?_))))))))))
    refine RL.DC (.pos U U) call133 (.cons (.g U (λ h=>h)) (.cons (.g U (λ h=>h)) .nil)) (λ hW=>by simp only[zb]at hW;exact(QT s (i+1) _ (by omega))) U ?_
    refine Ab (.and (.t U) (.g U (λ h=>h))) U (Ae U U (RL.v (.pos U U) (.move (.t U)) U (RL.v (.pos U U) (.move (.t U)) U (RL.v (.pos U U) (.add (.g U (λ h=>h)) .c (λ hW=>by simp only[zb]at hW;first|omega|(unfold cont at*;simp only[zb]at*;omega))) U ?_))))
    refine RL.DC (.pos U U) call133 (.cons (.g U (λ h=>h)) (.cons (.g U (λ h=>h)) .nil)) (λ hW=>by simp only[zb]at hW;exact(QT s (i+2) _ (by omega))) U ?_
    refine Ab (.and (.t U) (.g U (λ h=>h))) U (Ae U U (RL.v (.pos U U) (.move (.t U)) U (RL.v (.pos U U) (.move (.t U)) U (RL.v (.pos U U) (.add (.g U (λ h=>h)) .c (λ hW=>by simp only[zb]at hW;first|omega|(unfold cont at*;simp only[zb]at*;omega))) U ?_))))
    refine RL.DC (.pos U U) call133 (.cons (.g U (λ h=>h)) (.cons (.g U (λ h=>h)) .nil)) (λ hW=>by simp only[zb]at hW;exact(QT s (i+3) _ (by omega))) U ?_
    refine Ab (.and (.t U) (.g U (λ h=>h))) U (Aj U U ?_)
    refine Aa (CW.at [Y 0 (str s),Y 1 (i64 i),Y 5 (.int .u8 (A2 s i)),Y 64 (.bool (((((decide (240<=(A2 s i)))&&(decide ((A2 s i)<245)))&&(cont s (i+1)))&&(cont s (i+2)))&&(cont s (i+3))))] U ?_)
    refine Af rfl ?_ ?_<;>intro hb5<;>try simp only[zb]at hb5
    ·refine Ag (Ad (Ae U U (Ab (.eql (.t U) .c) U (Ae U U (RL.v (.pos U U) (.move (.t U)) U (RL.v (.pos U U) (.move (.t U)) U (RL.v (.pos U U) (.add (.g U (λ h=>h)) .c (λ hW=>by simp only[zb]at hW;first|omega|(unfold cont at*;simp only[zb]at*;omega))) U (RL.v (.pos U U) (.C2 (.g U (λ h=>h)) (.g U (λ h=>h)) underlying9 (λ hW=>by simp only[zb]at hW;first|omega|(unfold cont at*;simp only[zb]at*;omega))) U (RL.v (.pos U U) (.lss (.g U (λ h=>h)) .c) U (Ab (.and (.t U) (.g U (λ h=>h))) U (Ae U U (RL.v (.neg U U) (.move (.t U)) U (RL.v (.neg U U) (.eql (.g U (λ h=>h)) .c) U ?_)))))))))))))
     refine RL.v (.neg U U) (.move (.g U (λ h=>h))) U (RL.v (.DY U U) (.move (.t U)) U (RL.v (.DY U U) (.move (.t U)) U (RL.v (.DY U U) (.add (.g U (λ h=>h)) .c (λ hW=>by simp only[zb]at hW;first|omega|(unfold cont at*;simp only[zb]at*;omega))) U (RL.v (.DY U U) (.C2 (.g U (λ h=>h)) (.g U (λ h=>h)) underlying9 (λ hW=>by simp only[zb]at hW;first|omega|(unfold cont at*;simp only[zb]at*;omega))) U (RL.v (.DY U U) (.geq (.g U (λ h=>h)) .c) U ?_)))))
     refine RL.v (.neg U U) (.and (.g U (λ h=>h)) (.g U (λ h=>h))) U (Ab (.or (.t U) (.g U (λ h=>h))) U (Aa (Ac ?_)))
     refine Af rfl ?_ ?_<;>intro hb6<;>try simp only[zb]at hb6
     ·refine Ad (Ab (.assign .c) U (Aa (Ac (Ah (hE.r1 U U ?_)))))
      clear hE
      refine⟨congrArg (λ x=>Ending.returned (i64 x)) ?_,rfl⟩
      unfold rune;(try dsimp only);(repeat' split)
      all_goals first|rfl|(exfalso;simp only[zb]at*;omega)|(exfalso;simp_all;done)|(exfalso;simp_all;omega)
     ·refine Ai (Ac (Ad (Ab (.assign .c) U (Aa (Ac ?_)))))
      refine Ah (hE.r1 U U ?_)
      clear hE
      refine⟨congrArg (λ x=>Ending.returned (i64 x)) ?_,rfl⟩
      unfold rune;(try dsimp only);(repeat' split)
      all_goals first|rfl|(exfalso;simp only[zb]at*;omega)|(exfalso;simp_all;done)|(exfalso;simp_all;omega)
    ·refine Ai (Ac (Ad (Ab (.assign .c) U (Aa (Ac ?_)))))
     refine Ah (hE.r1 U U ?_)
     clear hE
     refine⟨congrArg (λ x=>Ending.returned (i64 x)) ?_,rfl⟩
     unfold rune;(try dsimp only);(repeat' split)
     all_goals first|rfl|(exfalso;simp only[zb]at*;omega)|(exfalso;simp_all;done)|(exfalso;simp_all;omega)
theorem fZ(s:A1)(w:World)(hb:len s<=9223372036854775807):
  Calls prog 59 [(str s)].toArray w λ e w'=>e= .returned (.bool (CR s))/\w'=w:=by
 refine CW.BH func59 U ntmps59 (Nat.le_of_ble_eq_true U) λ Q hE=>?_
 have:=A4 s
 refine An [0] (L':=[Y 0 (str s)]) ?_ U
 refine Ad (Ab (.assign .c) U (Aa (Ac (Ad ?_))))
 refine Ab (.assign .c) U (Aa (Ac ?_))
 refine Ag (Am ?_)
 refine CW.loop (σ:=Int) (λ k=>[Y 0 (str s),Y 3 (i64 k)]) (λ k wl=>w=wl/\0<=k/\G4 s k=CR s) (λ k=>(len s-k).toNat) 0 [0,3] U ?_ ?_
 ·exact⟨rfl,by omega,rfl⟩
 ·rintro k wl ⟨rfl,hk0,hkF⟩
  have hr:=LR s k
  have hrl:=rune_le s k
  refine Ag (Ad (Ae U U (Ae U U (Ab (.BR (.t U) underlying9) U (Ab (.lss (.t U) (.t U)) U (Aa (Ac ?_)))))))
  refine Af rfl ?_ ?_<;>intro hb1<;>try simp only[zb]at hb1
  ·refine Ai (Ac (Am (Ad (Ae U U (Ae U U ?_)))))
   refine RL.DC .none call88 (.cons (.t U) (.cons (.t U) .nil)) (λ _=>(fY s k _ (by omega) (by omega) (by omega))) U ?_
   refine Aj U U ?_
   refine Aa (CW.at [Y 0 (str s),Y 3 (i64 k),Y 4 (i64 (rune s k))] U (Ag (Ad (Ae U U (Ab (.eql (.t U) .c) U (Aa (Ac ?_)))))))
   refine Af rfl ?_ ?_<;>intro hb2<;>try simp only[zb]at hb2
   ·refine Ad (Ab (.assign .c) U (Aa (Ac (Ah (hE.r1 U U ?_)))))
    exact⟨by rw[<-hkF,SI s k hk0 hb1 (by omega)],rfl⟩
   ·refine Ai (Ac ?_)
    refine CW.region (Ae U U (Ae U U (Ab (.add (.t U) (.t U) (λ _=>by omega)) U (Aj U U ?_))))
    refine Aa λ a hs=>Exists.intro (k+rune s k) ⟨hs.BC [0,3],?_,?_⟩
    ·exact⟨rfl,by omega,by rw[<-hkF,N3 s k hk0 hb1 (by omega)]⟩
    ·show Int.toNat _<Int.toNat _;omega
  ·refine CW.exit (CW.at [] U ?_)
   refine Ad (Ab (.assign .c) U (Aa (Ac (Ah (hE.r1 U U ?_)))))
   exact⟨by rw[<-hkF,UY s k (by omega)],rfl⟩
theorem Z0(s:A1)(w:World)(hb:len s<=9223372036854775807):
  Calls prog 52 [(str s)].toArray w λ e w'=>e= .returned (.bool (CF s))/\w'=w:=by
 refine CW.BH func52 U ntmps52 (Nat.le_of_ble_eq_true U) λ Q hE=>?_
 have:=A4 s
 refine An [0] (L':=[Y 0 (str s)]) ?_ U
 refine Ad (Ab (.assign .c) U (Aa (Ac (Ag ?_))))
 refine Ad (Ab (.assign .c) U (Aa (Ac (Am ?_))))
 refine CW.loop (σ:=Int) (λ k=>[Y 0 (str s),Y 3 (i64 k)]) (λ k wl=>w=wl/\0<=k/\k<=len s/\KO s k=CF s) (λ k=>(len s-k).toNat) 0 [0,3] U ?_ ?_
 ·exact⟨rfl,by omega,by omega,rfl⟩
 ·rintro k wl ⟨rfl,hk0,hk1,hkF⟩
  refine Ag (Ad (Ae U U (Ae U U (Ab (.BR (.t U) underlying9) U (Ab (.lss (.t U) (.t U)) U (Aa (Ac ?_)))))))
  refine Af rfl ?_ ?_<;>intro hb1<;>try simp only[zb]at hb1
  ·refine Ai (Ac (Ag (Am (Ad ?_))))
   refine Ae U U (Ae U U (Ab (.C2 (.t U) (.t U) underlying9 (λ _=>by omega)) U (Aj U U (Aa (Ac ?_)))))
   refine Ad (Ae U U (Ab (.geq (.t U) .c) U (Ae U U (RL.v (.pos U U) (.move (.t U)) U (RL.v (.pos U U) (.leq (.g U (λ h=>h)) .c) U (Ab (.and (.t U) (.g U (λ h=>h))) U (Ae U U (RL.v (.neg U U) (.move (.t U)) U (RL.v (.neg U U) (.geq (.g U (λ h=>h)) .c) U (RL.v (.neg U U) (.move (.g U (λ h=>h))) U (RL.v (.DY U U) (.move (.t U)) U (RL.v (.DY U U) (.leq (.g U (λ h=>h)) .c) U (RL.v (.neg U U) (.and (.g U (λ h=>h)) (.g U (λ h=>h))) U (Ab (.or (.t U) (.g U (λ h=>h))) U (Ae U U (RL.v (.neg U U) (.move (.t U)) U (RL.v (.neg U U) (.eql (.g U (λ h=>h)) .c) U (Ab (.or (.t U) (.g U (λ h=>h))) U ?_))))))))))))))))))
   refine Aj U U (Aa (Ac ?_))
   refine Ad (Ae U U (Ab (.not (.t U)) U (Ae U U (RL.v (.pos U U) (.move (.t U)) U (RL.v (.pos U U) (.eql (.g U (λ h=>h)) .c) U (RL.v (.pos U U) (.move (.g U (λ h=>h))) U (RL.v (.QH U U) (.move (.t U)) U (RL.v (.QH U U) (.lss (.g U (λ h=>h)) .c) U (RL.v (.pos U U) (.or (.g U (λ h=>h)) (.g U (λ h=>h))) U (RL.v (.pos U U) (.move (.g U (λ h=>h))) U (RL.v (.QH U U) (.move (.t U)) U (RL.v (.QH U U) (.gtr (.g U (λ h=>h)) .c) U (RL.v (.pos U U) (.or (.g U (λ h=>h)) (.g U (λ h=>h))) U (Ab (.and (.t U) (.g U (λ h=>h))) U ?_))))))))))))))
   refine Aa (CW.at [Y 0 (str s),Y 3 (i64 k),Y 46 (.bool ((!((((decide (97<=(A2 s k)))&&(decide ((A2 s k)<=122)))||((decide (65<=(A2 s k)))&&(decide ((A2 s k)<=90))))||((A2 s k)==95)))&&(((k==0)||(decide ((A2 s k)<48)))||(decide (57<(A2 s k))))))] U ?_)
   refine Af rfl ?_ ?_<;>intro hb2<;>try simp only[zb]at hb2
   ·refine Ad (Ab (.assign .c) U (Aa (Ac (Ah (hE.r1 U U ?_)))))
    exact⟨by rw[<-hkF,fI s k hk0 hb1 (by simp only[E9,BG,zb];omega)],rfl⟩
   ·refine Ai (Ac ?_)
    refine CW.region (Ae U U (Ab (.add (.t U) .c (λ _=>by omega)) U (Aj U U ?_)))
    refine Aa λ a hs=>Exists.intro (k+1) ⟨hs.BC [0,3],?_,?_⟩
    ·exact⟨rfl,by omega,by omega,by rw[<-hkF,fH s k hk0 hb1 (by simp only[E9,BG,zb];omega)]⟩
    ·show Int.toNat _<Int.toNat _;omega
  ·refine CW.exit (CW.at [Y 0 (str s)] U ?_)
   refine Ad (Ae U U (Ab (.N1 (.t U) .c) U (Aj U U (Aa (Ac (Ah (hE.r1 U U ?_)))))))
   exact⟨by rw[<-hkF,fJ s k (by omega)];rfl,rfl⟩
theorem tX(s:A1)(w:World)(hb:len s<=9223372036854775807):
  Calls prog 234 [(str s)].toArray w λ e w'=>e= .returned (.bool (HA s))/\w'=w:=by
 refine CW.BH func234 U ntmps234 (Nat.le_of_ble_eq_true U) λ Q hE=>?_
 have:=A4 s
 refine An [0] (L':=[Y 0 (str s)]) ?_ U
 refine Ad (Ab (.assign .c) U (Aa (Ac (Ag ?_))))
 refine Ad (Ab (.assign .c) U (Aa (Ac (Am ?_))))
 refine CW.loop (σ:=Int) (λ k=>[Y 0 (str s),Y 3 (i64 k)]) (λ k wl=>w=wl/\0<=k/\k<=len s/\KP s k=HA s) (λ k=>(len s-k).toNat) 0 [0,3] U ?_ ?_
 ·exact⟨rfl,by omega,by omega,rfl⟩
 ·rintro k wl ⟨rfl,hk0,hk1,hkF⟩
  refine Ag (Ad (Ae U U (Ae U U (Ab (.BR (.t U) underlying9) U (Ab (.lss (.t U) (.t U)) U (Aa (Ac ?_)))))))
  refine Af rfl ?_ ?_<;>intro hb1<;>try simp only[zb]at hb1
  ·refine Ai (Ac (Ag (Am (Ad ?_))))
   refine Ae U U (Ae U U (Ab (.C2 (.t U) (.t U) underlying9 (λ _=>by omega)) U (Ab (.lss (.t U) .c) U (Ae U U (RL.v (.neg U U) (.move (.t U)) U ?_)))))
   refine RL.v (.neg U U) (.move (.t U)) U (RL.v (.neg U U) (.C2 (.g U (λ h=>h)) (.g U (λ h=>h)) underlying9 (λ hW=>by simp only[zb]at hW;omega)) U (RL.v (.neg U U) (.gtr (.g U (λ h=>h)) .c) U (Ab (.or (.t U) (.g U (λ h=>h))) U (Aa (Ac ?_)))))
   refine Af rfl ?_ ?_<;>intro hb2<;>try simp only[zb]at hb2
   ·refine Ad (Ab (.assign .c) U (Aa (Ac (Ah (hE.r1 U U ?_)))))
    exact⟨by rw[<-hkF,fL s k hk0 hb1 (by simp only[BG,zb];omega)],rfl⟩
   ·refine Ai (Ac ?_)
    refine CW.region (Ae U U (Ab (.add (.t U) .c (λ _=>by omega)) U (Aj U U ?_)))
    refine Aa λ a hs=>Exists.intro (k+1) ⟨hs.BC [0,3],?_,?_⟩
    ·exact⟨rfl,by omega,by omega,by rw[<-hkF,fK s k hk0 hb1 (by simp only[BG,zb];omega)]⟩
    ·show Int.toNat _<Int.toNat _;omega
  ·refine CW.exit (CW.at [] U ?_)
   refine Ad (Ab (.assign .c) U (Aa (Ac (Ah (hE.r1 U U ?_)))))
   exact⟨by rw[<-hkF,YT s k (by omega)],rfl⟩
theorem tY(n:Nd)(w:World)(hb:len n.s<=9223372036854775807):
  Calls prog 191 [(H9 n)].toArray w λ e w'=>e= .returned (.bool (G5 n))/\Ext w w':=by
 refine CW.BH func191 U ntmps191 (Nat.le_of_ble_eq_true U) λ Q hE=>?_
 have hn0:=A4 n.s
 have hS:St w nM w nM []:=Ak ⟨λ _ _ _ h=>by cases h⟩
 refine An [0] (L':=[Y 0 (H9 n)]) ?_ U
 refine Ad ?_
 refine RL.box (v:=(H9 n)) hS (.t U) U (λ w1 b2 hS3=>?_)
 refine Ab (.assign .c) U (Aa (Ac ?_))
 refine Ag (Ad (Ab (.BI (q:=⟨b2,0,none⟩) (.t U) (λ w=>by kernel_rfl)) U (Ab (.B8 (v:=(i64 n.kind)) hS3 AR (i:=0) U (.t U) isAgg3 U) U (Ab (.neq (.t U) .c) U (Ae U U (RL.v (.neg U U) (.BI (q:=⟨b2,1,none⟩) (.t U) (λ w=>by kernel_rfl)) U (RL.v (.neg U U) (.B8 (v:=(i64 n.many)) hS3 AR (i:=0) U (.g U (λ h=>h)) isAgg3 U) U (RL.v (.neg U U) (.neq (.g U (λ h=>h)) .c) U (Ab (.or (.t U) (.g U (λ h=>h))) U (Ae U U (RL.v (.neg U U) (.BI (q:=⟨b2,2,none⟩) (.t U) (λ w=>by kernel_rfl)) U (RL.v (.neg U U) (.B8 (v:=(str n.name)) hS3 AR (i:=0) U (.g U (λ h=>h)) isAgg9 U) U (RL.v (.neg U U) (.N1 (.g U (λ h=>h)) .c) U ?_)))))))))))))
 refine Ab (.or (.t U) (.g U (λ h=>h))) U (Ae U U (RL.v (.neg U U) (.BI (q:=⟨b2,3,none⟩) (.t U) (λ w=>by kernel_rfl)) U (RL.v (.neg U U) (.B8 (v:=(str n.s)) hS3 AR (i:=0) U (.g U (λ h=>h)) isAgg9 U) U ?_)))
 refine RL.DC (.neg U U) call234 (.cons (.g U (λ h=>h)) .nil) (λ hW=>by simp only[zb]at hW;exact(tX n.s _ (by omega))) U ?_
 refine RL.v (.neg U U) (.not (.g U (λ h=>h))) U (Ab (.or (.t U) (.g U (λ h=>h))) U (Ae U U (RL.v (.neg U U) (.BI (q:=⟨b2,3,none⟩) (.t U) (λ w=>by kernel_rfl)) U (RL.v (.neg U U) (.B8 (v:=(str n.s)) hS3 AR (i:=0) U (.g U (λ h=>h)) isAgg9 U) U (RL.v (.neg U U) (.BR (.g U (λ h=>h)) underlying9) U ?_)))))
 refine RL.v (.neg U U) (.gtr (.g U (λ h=>h)) .c) U (Ab (.or (.t U) (.g U (λ h=>h))) U (Ae U U (RL.v (.neg U U) (.BI (q:=⟨b2,5,none⟩) (.t U) (λ w=>by kernel_rfl)) U (RL.v (.neg U U) (.B8 (v:=(i64 n.e)) hS3 AR (i:=0) U (.g U (λ h=>h)) isAgg3 U) U (RL.v (.neg U U) (.lss (.g U (λ h=>h)) .c) U ?_)))))
 refine Ab (.or (.t U) (.g U (λ h=>h))) U (Ae U U (RL.v (.neg U U) (.BI (q:=⟨b2,5,none⟩) (.t U) (λ w=>by kernel_rfl)) U (RL.v (.neg U U) (.B8 (v:=(i64 n.e)) hS3 AR (i:=0) U (.g U (λ h=>h)) isAgg3 U) U (RL.v (.neg U U) (.gtr (.g U (λ h=>h)) .c) U (Ab (.or (.t U) (.g U (λ h=>h))) U ?_)))))
 refine Ae U U (RL.v (.neg U U) (.BI (q:=⟨b2,3,none⟩) (.t U) (λ w=>by kernel_rfl)) U (RL.v (.neg U U) (.B8 (v:=(str n.s)) hS3 AR (i:=0) U (.g U (λ h=>h)) isAgg9 U) U (RL.v (.neg U U) (.BR (.g U (λ h=>h)) underlying9) U (RL.v (.neg U U) (.BI (q:=⟨b2,5,none⟩) (.t U) (λ w=>by kernel_rfl)) U (RL.v (.neg U U) (.B8 (v:=(i64 n.e)) hS3 AR (i:=0) U (.g U (λ h=>h)) isAgg3 U) U ?_)))))
 refine RL.v (.neg U U) (.add (.g U (λ h=>h)) (.g U (λ h=>h)) (λ hW=>by simp only[zb]at hW;omega)) U (RL.v (.neg U U) (.gtr (.g U (λ h=>h)) .c) U (Ab (.or (.t U) (.g U (λ h=>h))) U ?_))
 refine Aa (CW.at [Y 1 (.pointer (some ⟨b2,0,none⟩)),Y 46 (.bool ((((((((n.kind != 3)||(n.many != 0))||(!(n.name==[])))||(!(HA n.s)))||(decide (100<(len n.s))))||(decide (n.e<((-1000)))))||(decide (1000<n.e)))||(decide (1000<((len n.s)+n.e)))))] U ?_)
 refine Af rfl ?_ ?_<;>intro hb1<;>try simp only[zb]at hb1
 ·refine Ad (Ab (.assign .c) U (Aa (Ac (Ah (hE.r1 U U ?_)))))
  clear hE
  refine⟨congrArg (λ x=>Ending.returned (.bool x)) ?_,hS3.low⟩
  unfold G5;(try dsimp only);(repeat' split)
  all_goals first|rfl|(exfalso;simp only[zb]at*;omega)|(exfalso;simp_all;done)|(exfalso;simp_all;omega)
 ·refine Ai (Ac (Ag (Ad (Ab (.BI (q:=⟨b2,3,none⟩) (.t U) (λ w=>by kernel_rfl)) U (Ab (.B8 (v:=(str n.s)) hS3 AR (i:=0) U (.t U) isAgg9 U) U (Ab (.O1 (.t U) .c) U (Aa (Ac ?_))))))))
  refine Af rfl ?_ ?_<;>intro hb2<;>try simp only[zb]at hb2
  ·refine Ad (Ab (.BI (q:=⟨b2,4,none⟩) (.t U) (λ w=>by kernel_rfl)) U (Ab (.B8 (v:=(.bool n.neg)) hS3 AR (i:=0) U (.t U) isAgg4 U) U (Ab (.not (.t U)) U (Ae U U (RL.v (.pos U U) (.BI (q:=⟨b2,5,none⟩) (.t U) (λ w=>by kernel_rfl)) U (RL.v (.pos U U) (.B8 (v:=(i64 n.e)) hS3 AR (i:=0) U (.g U (λ h=>h)) isAgg3 U) U (RL.v (.pos U U) (.eql (.g U (λ h=>h)) .c) U (Ab (.and (.t U) (.g U (λ h=>h))) U (Aj U U (Aa (Ac ?_)))))))))))
   refine Ah (hE.r1 U U ?_)
   clear hE
   refine⟨congrArg (λ x=>Ending.returned (.bool x)) ?_,hS3.low⟩
   unfold G5;(try dsimp only);(repeat' split)
   all_goals first|rfl|(exfalso;simp only[zb]at*;omega)|(exfalso;simp_all;done)|(exfalso;simp_all;omega)
  ·have hpos:=G0 hb2
   refine Ai (Ac (Ad (Ab (.BI (q:=⟨b2,3,none⟩) (.t U) (λ w=>by kernel_rfl)) U (Ab (.B8 (v:=(str n.s)) hS3 AR (i:=0) U (.t U) isAgg9 U) U (Ab (.C2 (.t U) .c underlying9 (λ _=>by omega)) U (Ab (.neq (.t U) .c) U (Ae U U (RL.v (.pos U U) (.BI (q:=⟨b2,3,none⟩) (.t U) (λ w=>by kernel_rfl)) U (RL.v (.pos U U) (.B8 (v:=(str n.s)) hS3 AR (i:=0) U (.g U (λ h=>h)) isAgg9 U) U (RL.v (.pos U U) (.BI (q:=⟨b2,3,none⟩) (.t U) (λ w=>by kernel_rfl)) U (RL.v (.pos U U) (.B8 (v:=(str n.s)) hS3 AR (i:=0) U (.g U (λ h=>h)) isAgg9 U) U (RL.v (.pos U U) (.BR (.g U (λ h=>h)) underlying9) U (RL.v (.pos U U) (.sub (.g U (λ h=>h)) .c (λ hW=>by simp only[zb]at hW;omega)) U (RL.v (.pos U U) (.C2 (.g U (λ h=>h)) (.g U (λ h=>h)) underlying9 (λ hW=>by simp only[zb]at hW;omega)) U ?_))))))))))))))
   refine RL.v (.pos U U) (.neq (.g U (λ h=>h)) .c) U (Ab (.and (.t U) (.g U (λ h=>h))) U (Aj U U (Aa (Ac ?_))))
   refine Ah (hE.r1 U U ?_)
   clear hE
   refine⟨congrArg (λ x=>Ending.returned (.bool x)) ?_,hS3.low⟩
   unfold G5;(try dsimp only);(repeat' split)
   all_goals first|rfl|(exfalso;simp only[zb]at*;omega)|(exfalso;simp_all;done)|(exfalso;simp_all;omega)
theorem gA:prog.underlying 46=some (.struct (prog.fieldsOf 46)):=by kernel_rfl
theorem tZ:(prog.fieldsOf 46).toList=[⟨"Kind",3,0,false,"","",0⟩,⟨"Many",3,1,false,"","",8⟩,⟨"Name",9,2,false,"","",16⟩,⟨"S",9,3,false,"","",32⟩,⟨"Neg",4,4,false,"","",48⟩,⟨"E",3,5,false,"","",56⟩]:=by kernel_rfl
theorem gB(d:Nat)(a b:Nd)(w:World):(Op.equalIn (d+1+1) 46 (.agg (Nd.cells a).toArray) (.agg (Nd.cells b).toArray)).run prog w= .ok (decide (a=b)) w:=by
 rw[run_equalIn_agg w _ _ _ _ gA Tryz.stoodInHeld46,tZ]
 rw[JU (P:=prog) (w:=w) (xs:=(Nd.cells a).toArray) (ys:=(Nd.cells b).toArray) (f:=⟨"Kind",3,0,false,"","",0⟩) (by decide) (show(part 3 (Nd.cells a).toArray 0).run prog w= .ok (i64 ((a).kind)) w by kernel_rfl) (show(part 3 (Nd.cells b).toArray 0).run prog w= .ok (i64 ((b).kind)) w by kernel_rfl) (QL underlying3 w d ((a).kind) ((b).kind))]
 rw[JU (P:=prog) (w:=w) (xs:=(Nd.cells a).toArray) (ys:=(Nd.cells b).toArray) (f:=⟨"Many",3,1,false,"","",8⟩) (by decide) (show(part 3 (Nd.cells a).toArray 1).run prog w= .ok (i64 ((a).many)) w by kernel_rfl) (show(part 3 (Nd.cells b).toArray 1).run prog w= .ok (i64 ((b).many)) w by kernel_rfl) (QL underlying3 w d ((a).many) ((b).many))]
 rw[JU (P:=prog) (w:=w) (xs:=(Nd.cells a).toArray) (ys:=(Nd.cells b).toArray) (f:=⟨"Name",9,2,false,"","",16⟩) (by decide) (show(part 9 (Nd.cells a).toArray 2).run prog w= .ok (str ((a).name)) w by kernel_rfl) (show(part 9 (Nd.cells b).toArray 2).run prog w= .ok (str ((b).name)) w by kernel_rfl) (UT underlying9 w d ((a).name) ((b).name))]
 rw[JU (P:=prog) (w:=w) (xs:=(Nd.cells a).toArray) (ys:=(Nd.cells b).toArray) (f:=⟨"S",9,3,false,"","",32⟩) (by decide) (show(part 9 (Nd.cells a).toArray 3).run prog w= .ok (str ((a).s)) w by kernel_rfl) (show(part 9 (Nd.cells b).toArray 3).run prog w= .ok (str ((b).s)) w by kernel_rfl) (UT underlying9 w d ((a).s) ((b).s))]
 rw[JU (P:=prog) (w:=w) (xs:=(Nd.cells a).toArray) (ys:=(Nd.cells b).toArray) (f:=⟨"Neg",4,4,false,"","",48⟩) (by decide) (show(part 4 (Nd.cells a).toArray 4).run prog w= .ok (.bool ((a).neg)) w by kernel_rfl) (show(part 4 (Nd.cells b).toArray 4).run prog w= .ok (.bool ((b).neg)) w by kernel_rfl) (YN underlying4 w d ((a).neg) ((b).neg))]
 rw[JU (P:=prog) (w:=w) (xs:=(Nd.cells a).toArray) (ys:=(Nd.cells b).toArray) (f:=⟨"E",3,5,false,"","",56⟩) (by decide) (show(part 3 (Nd.cells a).toArray 5).run prog w= .ok (i64 ((a).e)) w by kernel_rfl) (show(part 3 (Nd.cells b).toArray 5).run prog w= .ok (i64 ((b).e)) w by kernel_rfl) (QL underlying3 w d ((a).e) ((b).e))]
 have ht:(.ok true w:Result Bool)= .ok (decide True) w:=rfl
 rw[eZ,ht]
 simp only[fA]
 have hp:((a).kind=(b).kind/\(a).many=(b).many/\(a).name=(b).name/\(a).s=(b).s/\(a).neg=(b).neg/\(a).e=(b).e/\True)↔a=b:=by cases a;cases b;simp
 rw[decide_eq_decide.2 hp]
theorem QU(x y:Operand)(a b:Nd)(w:World):(do eqGuard .eql 46 x y (.agg (Nd.cells a).toArray) (.agg (Nd.cells b).toArray);binOp .eql 46 (.agg (Nd.cells a).toArray) (.agg (Nd.cells b).toArray):Sem Value).run prog w= .ok (.bool (decide (a=b))) w:=fB x y w eqGuardType46 (gB 9998 a b w)
open Go.Eng Go.RowKit Go.Sort
structure Gl (w:World):Prop where
 big:0<w.heap.size/\7<w.heap.size
 u8:Lib.Utf8Tabs 1 2 w
 space:Lib.TabIs prog w "strings.asciiSpace" .u8 Lib.asciiSpaceTab
 pow:Lib.TabIs prog w "internal/strconv.uint64pow10" .u64 Lib.pow10Tab
 deb:w.cell? ⟨9,15,none⟩=some (.int .u8 4)
 err: ∃ev,w.cell? ⟨5,0,none⟩=some ev/\(ev= .nilIface\/ ∃t p,ev= .iface t p)
theorem SK{w w':World}(h:Below w.heap.size w w'){a:Addr}{v:Value}(hv:w.cell? a=some v):w'.cell? a=some v:=by
 have hlt:a.block<w.heap.size:=by
  rcases Nat.lt_or_ge a.block w.heap.size with h'|h'
  ·exact h'
  ·simp[World.cell?,h']at hv
 exact(h.cell hlt).trans hv
theorem Gl.low {w w':World}(g:Gl w)(h:Below w.heap.size w w'):Gl w':=by
 have hb:=g.big
 have hs:=h.size
 refine⟨⟨by omega,by omega⟩,⟨λ c hc=>SK h (g.u8.1 c hc),λ i hi=>⟨SK h (g.u8.2 i hi).1,SK h (g.u8.2 i hi).2⟩⟩,?_,?_,SK h g.deb,by obtain⟨ev,h1,h2⟩:=g.err;exact⟨ev,SK h h1,h2⟩⟩
 ·exact var?_below h (show prog.globalNamed "strings.asciiSpace"=some 0 by kernel_rfl) hb.1 g.space
 ·exact var?_below h (show prog.globalNamed "internal/strconv.uint64pow10"=some 7 by kernel_rfl) hb.2 g.pow
theorem P6(s p:A1)(w:World):Calls prog 77 [str s,str p].toArray w λ e w'=>e= .returned (.bool (Lib.hasPrefix s p))/\w'=w:=Tryz.strings_HasPrefix ⟨⟨s⟩⟩ ⟨⟨p⟩⟩ w
theorem V7(s cut:A1)(w:World)(hc:len cut<4294967281)(ha: ∀(j:Nat) (b:UInt8),cut[j]? =some b->b.toNat<128):
  Calls prog 47 [str s,str cut].toArray w λ e w'=>e= .returned (str (s.dropWhile (cut.contains ·)))/\Ext w w':=
 (Any.strings_TrimLeft_laid Tryz.rK (by kernel_rfl) ⟨⟨s⟩⟩ ⟨⟨cut⟩⟩ w (by unfold len at hc;show cut.length<_;omega) ha)
theorem u0(s cut:A1)(w:World)(hs:len s<=9223372036854775807)(hc:len cut<4294967281)(ha: ∀(j:Nat) (b:UInt8),cut[j]? =some b->b.toNat<128):
  Calls prog 159 [str s,str cut].toArray w λ e w'=>e= .returned (str (Lib.trimRightS s cut))/\Ext w w':=
 (Any.strings_TrimRight_laid Tryz.rM (by kernel_rfl) ⟨⟨s⟩⟩ ⟨⟨cut⟩⟩ w (by unfold len at hs;show s.length<=_;omega) (by unfold len at hc;show cut.length<_;omega) ha)
theorem u4(s:A1)(w:World)(g:Gl w)(h:0<len s):
  Calls prog 106 [str s].toArray w λ e w'=>e= .returned (.tuple #[.int .i32 (AO s 0),i64 (runeLen s 0)])/\Ext w w':=by
 have h0: ¬(ByteArray.mk ⟨s⟩).size=0:=by show ¬s.length=0;unfold len at h;omega
 have:=Tryz.utf8_DecodeRuneInString ⟨⟨s⟩⟩ w g.u8
 rw[show Lib.decodeGo ⟨⟨s⟩⟩=Utf8.decode ⟨⟨s⟩⟩ 0 from by unfold Lib.decodeGo;rw[if_neg h0]]at this
 exact this
theorem V8(s:A1)(c:Int)(w:World):Calls prog 119 [str s,.int .u8 c].toArray w λ e w'=>e= .returned (i64 (Lib.indexByte s c.toNat.toUInt8))/\w'=w:=Tryz.strings_IndexByte ⟨⟨s⟩⟩ c w
theorem repeatL_one(c:UInt8): ∀n,Lib.repeatL [c] n=List.replicate n c
 |0=>rfl
 |n+1=>by rw[Lib.repeatL,repeatL_one c n];rfl
theorem u5(c:UInt8)(n:Int)(w:World)(h0:0<=n)(h1:n<=140737488355328):
  Calls prog 169 [str [c],i64 n].toArray w λ e w'=>e= .returned (str (List.replicate n.toNat c))/\Ext w w':=by
 by_cases ha:n=0
 ·subst ha;exact(Tryz.strings_Repeat_zero ⟨⟨[c]⟩⟩ w).mono λ e w' ⟨he,hw⟩=>⟨he,hw▸Ext.refl _⟩
 ·by_cases hb:n=1
  ·subst hb;exact(Tryz.strings_Repeat_one ⟨⟨[c]⟩⟩ w).mono λ e w' ⟨he,hw⟩=>⟨he,hw▸Ext.refl _⟩
  ·have:=Tryz.strings_Repeat_main ⟨⟨[c]⟩⟩ n.toNat w (by omega) (by omega) (by show 1*_<=_;omega) (by show 0<1;omega)
   rw[show((n.toNat:Nat):Int)=n from by omega]at this
   refine this.mono λ e w' ⟨he,hw⟩=>⟨?_,hw⟩
   rw[he];show Ending.returned (str (Lib.repeatL [c] n.toNat))=_;rw[repeatL_one]
theorem u6{w w':World}(h:Ext w w')(k:Nat):Ext w (w'.drewN k):=⟨h.os,h.tape,h.output,h.size,h.block⟩
theorem u7(w:World)(os:Array Obj):Ext w (grow w os):=⟨rfl,rfl,rfl,by show w.heap.size<=(w.heap++os).size;rw[Array.size_append];omega,λ _ hj=>by show(w.heap++os)[_]? =_;rw[Array.getElem?_append_left hj]⟩
theorem Z1(n:Int)(w:World)(g:Gl w)(h0: -9223372036854775808<=n)(h1:n<=9223372036854775807):
  Calls prog 245 [i64 n].toArray w λ e w'=>e= .returned (str (Lib.itoa n))/\Ext w w':=
 (Tryz.strconv_Itoa n h0 h1 w g.pow).mono λ e w' ⟨he,k,os,hw⟩=>⟨he,hw▸Ext.trans (u6 (Ext.refl w) k) (u7 _ os)⟩
theorem Z2(s:A1)(v:Int)(w:World)(hs:len s<=9223372036854775806)(h:Lib.atoiAll s= .ok v):
  Calls prog 120 [str s].toArray w λ e w'=>e= .returned (.tuple #[i64 v,.nilIface])/\Ext w w':=
 (Tryz.strconv_Atoi_ok ⟨⟨s⟩⟩ (by show s.length<=_;unfold len at hs;omega) v h w).mono λ e w' ⟨he,hw⟩=>⟨he,by
  rcases hw with hw|⟨t,hw⟩
  ·exact hw▸Ext.refl _
  ·exact hw▸Joins.below_bytesWorld _ _ _ _ (Nat.le_refl _)⟩
theorem uA(g:Nat)(p:Nat->Bool)(s:A1)(w:World)(hg:Gl w)(eg: ∀args w,(callFunc g args).run prog w= .ok (.enter g args) w)(hs:len s<=9223372036854775807)
 (hp: ∀(x:Nat) (w:World),x<=1114111->Calls prog g [.int .i32 x].toArray w λ e w'=>e= .returned (.bool (p x))/\w'=w):
 Calls prog 210 [str s,.func (.func g) #[] #[]].toArray w λ e w'=>e= .returned (str (Lib.trimF p ⟨⟨s⟩⟩).data.toList)/\Ext w w':=
by
 have hq:PredAtRunes prog g #[] p w:=by
  intro W x hx _
  show Calls prog g (#[encR x]++ #[]) W _
  exact(hp x W hx).mono λ e w' ⟨he,hw⟩=>⟨he,0,hw⟩
 refine(Tryz.strings_TrimFunc_runes g #[] eg p ⟨⟨s⟩⟩ w (by show s.length<=_;unfold len at hs;omega) hg.u8 hq).mono λ e w' ⟨he,hw⟩=>⟨?_,hw⟩
 rw[he]
theorem uB{cut:A1}(h: ∀b∈cut,b.toNat<128): ∀(j:Nat) (b:UInt8),cut[j]? =some b->b.toNat<128:=λ _ b hb=>h b (List.mem_of_getElem? hb)
theorem uC(M:Mem)(s:A1)(w:World)(hM:Sat w M)(hg:Gl w)(hs:len s<4294967281)(ha: ∀(j:Nat) (b:UInt8),s[j]? =some b->b.toNat<128)(hn:(Lib.fields s).length<=maxLen):
  Calls prog 115 [str s].toArray w λ e w'=> ∃v M',e= .returned v/\Sl M' 1 (Lib.fields s).length v ((Lib.fields s).flatMap AZ)/\Grow w M w' M':=by
 refine(Tryz.strings_Fields ⟨⟨s⟩⟩ w (by show s.length<_;unfold len at hs;omega) ha hg.space).mono λ e w' ⟨he,hw⟩=>?_
 have hf:(Lib.fields s).map (λ l=>Value.string ⟨l.toArray⟩)=(Lib.fields s).flatMap AZ:=by
  induction Lib.fields s with
  |nil=>rfl
  |cons a b ih=>rw[List.map_cons,ih];rfl
 have hN:=(Ak hM).newRow 9 1 (Lib.fields s).length ((Lib.fields s).flatMap AZ) (by rw[DQ AZ 1 DZ]) hn
 refine⟨_,_,he,hN.1.sl (i:=0) U,?_⟩
 rw[hw]
 show Grow w M (w.alloc (.cells (((Lib.fields s)).map λ l=>Value.string ⟨l.toArray⟩).toArray 9)) _
 rw[hf];exact hN.1.done
open Go.ChangeShapes Go.WideShapes Go.ChangeAt Go.RowKit Go.Eng
theorem own:ownKnob prog.godebug=none:=by kernel_rfl
abbrev Laid:List (String×DataW Unit):=[("math/bits.deBruijn32tab",Rows.laid_math_bits_deBruijn32tab),("math/bits.deBruijn64tab",Rows.laid_math_bits_deBruijn64tab),("internal/strconv.uint64pow10",Rows.laid_internal_strconv_uint64pow10),("unicode/utf8.acceptRanges",Rows.laid_unicode_utf8_acceptRanges),("strconv.ErrRange",Rows.laid_strconv_ErrRange),("strconv.ErrSyntax",Rows.laid_strconv_ErrSyntax),("unicode.White_Space",Rows.laid_unicode_White_Space),("strings.asciiSpace",Rows.laid_strings_asciiSpace),("unicode/utf8.first",Rows.laid_unicode_utf8_first)]
theorem Z3{P:Program}{W:World}{name:String}{k:IntKind}{zs:List Int}{g:Nat}{t e:TypeId}{n:Nat}
  (hg:P.globalNamed name=some g) (hty:(P.globals[g]?).map (·.type)=some t) (ht:P.underlying t=some (.array n e)) (he:P.underlying e=some (.int k)) (hce:P.cellsOf e=1) (hct:P.cellsOf t=n)
  (h:Lib.VarReads P W name (Lib.tabData k zs)):Lib.TabIs P W name k zs:=by
 obtain⟨g',t',cs,fuel,p,hg',ht',hvar,hd⟩:=h
 obtain rfl:=Option.some.inj (hg.symm.trans hg')
 obtain rfl:=Option.some.inj (hty.symm.trans ht')
 unfold Lib.TabIs
 rw[hvar,<-Lib.cells_of_tab ht he hce hct hd]
theorem gC{P:Program}{W:World}{name:String}{k:IntKind}{zs:List Int}{g:Nat}(h:Lib.TabIs P W name k zs)(hg:P.globalNamed name=some g)(h0:0<zs.length):g<W.heap.size:=lt_of_cell (h.cell hg 0 h0)
theorem uD:U8Extra prog Tryz.eP:=⟨by kernel_rfl,by kernel_rfl,by kernel_rfl,by kernel_rfl,by kernel_rfl,by kernel_rfl,by kernel_rfl⟩
theorem e1:(Rows.laid_strings_asciiSpace:DataW Unit)=Lib.tabData .u8 Lib.asciiSpaceTab:=by kernel_rfl
theorem e2:(Rows.laid_internal_strconv_uint64pow10:DataW Unit)=Lib.tabData .u64 Lib.pow10Tab:=by kernel_rfl
theorem e3:(Rows.laid_unicode_utf8_first:DataW Unit)=Lib.firstData:=by kernel_rfl
theorem e4:(Rows.laid_unicode_utf8_acceptRanges:DataW Unit)=Lib.acceptData:=by kernel_rfl
abbrev gD:List Int:=Lib.deBruijn64tab.map (λ n:Nat=>(n:Int))
theorem e5:(Rows.laid_math_bits_deBruijn64tab:DataW Unit)=Lib.tabData .u8 gD:=by kernel_rfl
theorem gE:"*"++"errors.errorString"="*errors.errorString":=by decide
theorem uE(u:TypeId)(h:prog.typeName? 3 u=some "*errors.errorString"):u=305:=
 typeName_ptr_named (nm:="errors.errorString") (by rw[gE];kernel_rfl) (by kernel_rfl) (by decide) u (by rw[gE];exact h)
theorem uF{W:World}(h:laidMet prog Laid W):Gl W:=by
 have r1:=Lib.laidMet.reads h (show("strings.asciiSpace",Rows.laid_strings_asciiSpace)∈Laid from .tail _ (.tail _ (.tail _ (.tail _ (.tail _ (.tail _ (.tail _ (.head _))))))))
 have r2:=Lib.laidMet.reads h (show("internal/strconv.uint64pow10",Rows.laid_internal_strconv_uint64pow10)∈Laid from .tail _ (.tail _ (.head _)))
 have r3:=Lib.laidMet.reads h (show("unicode/utf8.first",Rows.laid_unicode_utf8_first)∈Laid from .tail _ (.tail _ (.tail _ (.tail _ (.tail _ (.tail _ (.tail _ (.tail _ (.head _)))))))))
 have r4:=Lib.laidMet.reads h (show("unicode/utf8.acceptRanges",Rows.laid_unicode_utf8_acceptRanges)∈Laid from .tail _ (.tail _ (.tail _ (.head _))))
 rw[e1]at r1
 rw[e2]at r2
 rw[e3]at r3
 rw[e4]at r4
 have h1:Lib.TabIs prog W "strings.asciiSpace" .u8 Lib.asciiSpaceTab:=
  Z3 (g:=0) (by kernel_rfl) (by kernel_rfl) underlying203 underlying5 (by kernel_rfl) (by kernel_rfl) r1
 have h2:Lib.TabIs prog W "internal/strconv.uint64pow10" .u64 Lib.pow10Tab:=
  Z3 (g:=7) (by kernel_rfl) (by kernel_rfl) underlying330 underlying230 (by kernel_rfl) (by kernel_rfl) r2
 have h3:Lib.Utf8Tabs 1 2 W:=utf8Tabs_of_readsT (.of260 Tryz.s9) uD r3 r4
 refine⟨⟨gC h1 (by kernel_rfl) (of_decide_eq_true (by kernel_rfl)),gC h2 (by kernel_rfl) (of_decide_eq_true (by kernel_rfl))⟩,h3,h1,h2,?_,?_⟩
 ·have r5:=Lib.laidMet.reads h (show("math/bits.deBruijn64tab",Rows.laid_math_bits_deBruijn64tab)∈Laid from .tail _ (.head _))
  rw[e5]at r5
  have h5:Lib.TabIs prog W "math/bits.deBruijn64tab" .u8 gD:=Z3 (g:=9) (by kernel_rfl) (by kernel_rfl) underlying340 underlying5 (by kernel_rfl) (by kernel_rfl) r5
  exact h5.cell (by kernel_rfl) 15 (of_decide_eq_true (by kernel_rfl))
 ·obtain⟨a,s,hv,_⟩:=laid_sentinel (te:=307) (ts:=9) (f:=(prog.fieldsOf 307)[0]!) h.tail.tail.tail.tail.tail (show prog.globalNamed "strconv.ErrSyntax"=some 5 by kernel_rfl) (by kernel_rfl) underlying166 uE underlying305 (by kernel_rfl) (by kernel_rfl) (by kernel_rfl) underlying9 (by kernel_rfl) (by kernel_rfl)
  exact⟨_,var?_cell (by kernel_rfl) hv 0,.inr ⟨_,_,rfl⟩⟩
def lits(l:List (DataW Unit)):List Value:=l.filterMap λ | .lit (.int k z)=>some (.int k z)|_=>none
def partsOf:DataW Unit->List (DataW Unit)| .agg ps=>ps|_=>[]
def SL(d:DataW Unit):Array Value:=(lits (partsOf d)).toArray
def gF(l:List (DataW Unit)):Array Value:=(l.flatMap λ p=>lits (partsOf p)).toArray
def uG:List (DataW Unit):=match Rows.laid_unicode_White_Space with| .ptr (.agg (.slice rows _::_))=>rows|_=>[]
def gG:DataW Unit->A1| .iface _ (.ptr (.agg [.lit (.string s)]))=>s|_=>[]
noncomputable def Z4 (os:Os):World:=
 let N:=(World.settled prog os).heap.size
 let w0:=World.holding prog os ⟨#[.cells (gF uG) 280,.cells #[.slice (some ⟨N,0,none⟩) 7 7,.slice none 0 0,.int .i64 2] 277,.cells #[str (gG Rows.laid_strconv_ErrRange)] 307,.cells #[str (gG Rows.laid_strconv_ErrSyntax)] 307],#[],[]⟩
 let put (h:Array Obj) (g:Nat) (cs:Array Value):Array Obj:=h.modify g λ
  | .cells _ t frozen=>.cells cs t frozen
  |o=>o
 let h1:=put w0.heap 8 (SL Rows.laid_math_bits_deBruijn32tab)
 let h2:=put h1 9 (SL Rows.laid_math_bits_deBruijn64tab)
 let h3:=put h2 7 (SL Rows.laid_internal_strconv_uint64pow10)
 let h4:=put h3 2 (gF (partsOf Rows.laid_unicode_utf8_acceptRanges))
 let h5:=put h4 6 #[.iface 305 (.pointer (some ⟨N+2,0,none⟩))]
 let h6:=put h5 5 #[.iface 305 (.pointer (some ⟨N+3,0,none⟩))]
 let h7:=put h6 3 #[.pointer (some ⟨N+1,0,none⟩)]
 let h8:=put h7 0 (SL Rows.laid_strings_asciiSpace)
 let h9:=put h8 1 (SL Rows.laid_unicode_utf8_first)
 { w0 with heap:=h9}
noncomputable abbrev N0:Nat:=(World.settled prog default).heap.size
set_option maxRecDepth 100000 in
theorem uH(os:Os)(args:Array Value):laidMet prog Laid ((Z4 os).forCall (λ _ _=>0) ⟨#[],args,[]⟩).memory:=
 (LaidIn.of_run [8,9,7,2,6,N0+2,5,N0+3,3,N0+1,N0,0,1] 12 (by kernel_rfl) (by kernel_rfl) (by kernel_rfl) (by kernel_rfl)).met
end Go.Proofs.YtmjpjbmeamnfpaaGreatDoor
namespace Go.Eng
open Go.RowKit
def C5(b:UInt8):Bool:=BG (b.toNat:Int)
def BB(n:Int):A1:=List.replicate n.toNat 48
def AI(s:A1)(i:Int):Int:=i+len ((A3 s i).takeWhile C5)
def AT(s:A1):A1:=s.dropWhile (([48]:A1).contains ·)
def D7(s:A1):A1:=Lib.trimRightS s [48]
def BA(s:A1):Int:=s.foldl (λ n b=>n*10+((b.toNat:Int)-48)) 0
theorem J3(s:A1)(i:Int)(h0:0<=i)(h1:i<len s): ∃b,A3 s i=b::A3 s (i+1)/\A2 s i=(b.toNat:Int):=by
 have h:i.toNat<s.length:=by unfold len at h1;omega
 refine⟨s[i.toNat],?_,by simp[A2,h]⟩
 unfold A3
 rw[show(i+1).toNat=i.toNat+1 from by omega]
 exact List.drop_eq_getElem_cons h
theorem O6(s:A1)(i:Int)(h1:len s<=i):A3 s i=[]:=by
 unfold A3;rw[List.drop_eq_nil_iff];unfold len at h1;omega
theorem CO(s:A1)(i:Int)(h0:0<=i)(h1:i<=len s):len (A3 s i)=len s-i:=by
 unfold A3 len at*;rw[List.length_drop];omega
theorem gH{s:A1}{i:Int}(h0:0<=i)(h1:i<len s)(h:BG (A2 s i)=true):AI s (i+1)=AI s i:=by
 obtain⟨b,h2,h3⟩:=J3 s i h0 h1
 unfold AI
 rw[h2,List.takeWhile_cons,show C5 b=true from by unfold C5;rw[<-h3];exact h]
 simp[len];omega
theorem gI{s:A1}{i:Int}(h0:0<=i)(h1:i<len s)(h:BG (A2 s i)=false):AI s i=i:=by
 obtain⟨b,h2,h3⟩:=J3 s i h0 h1
 unfold AI
 rw[h2,List.takeWhile_cons,show C5 b=false from by unfold C5;rw[<-h3];exact h]
 simp[len]
theorem gJ{s:A1}{i:Int}(h1:len s<=i):AI s i=i:=by
 unfold AI;rw[O6 s i h1];simp[len]
theorem KQ(s:A1)(i:Int)(h0:0<=i)(h1:i<=len s):i<=AI s i/\AI s i<=len s:=by
 have h2:=CO s i h0 h1
 have h3:=(List.takeWhile_sublist C5 (l:=A3 s i)).length_le
 unfold AI len at*;omega
theorem gK{s:A1}{i k:Int}(h0:0<=i)(h1:i<=k)(h2:k<AI s i):BG (A2 s k)=true:=by
 by_cases hl:i<len s
 ·by_cases hf:BG (A2 s i)=true
  ·by_cases hk:i=k
   ·subst hk;exact hf
   ·rw[<-gH h0 hl hf]at h2
    exact gK (i:=i+1) (by omega) (by omega) h2
  ·rw[Bool.not_eq_true]at hf
   rw[gI h0 hl hf]at h2;omega
 ·rw[gJ (by omega)]at h2;omega
termination_by (len s-i).toNat
def EL(neg:Bool)(s:A1)(e:Int):Nd×Int:=
 if HA s then
  if AT s==[]then(⟨3,0,[],[],false,0⟩,0)
  else if decide (e< -100000000)||decide (100000000<e)then(B2,2)
  else
   if decide (100<len (D7 (AT s)))||decide (e+(len (AT s)-len (D7 (AT s)))< -1000)||decide (1000<len (D7 (AT s))+(e+(len (AT s)-len (D7 (AT s)))))then(B2,2)
   else(⟨3,0,[],D7 (AT s),neg,e+(len (AT s)-len (D7 (AT s)))⟩,0)
 else(B2,4)
def CP(n:Nd):A1:=
 let sign:A1:=if n.neg then [45]else []
 if n.s==[]then [48]
 else if decide (0<=n.e)&&decide (len n.s+n.e<=20)then sign++n.s++BB n.e
 else if decide (n.e<0)&&decide (-20<=n.e)then
  let s:=BB (1-n.e-len n.s)++n.s
  sign++Eng.sub s 0 (len s+n.e)++[46]++A3 s (len s+n.e)
 else sign++n.s++[101]++Lib.itoa n.e
theorem KR{n:Int}(h:n<=0):BB n=[]:=by unfold BB;rw[show n.toNat=0 from by omega];rfl
theorem gL(n:Int)(h:0<=n):len (BB n)=n:=by unfold BB len;rw[List.length_replicate];omega
theorem SM(d:Int):0<=len (BB d)/\d<=len (BB d)/\(len (BB d)<=0\/len (BB d)=d):=by unfold BB len;rw[List.length_replicate];omega
theorem A5{α:Type}(a b:List α):len (a++b)=len a+len b:=by unfold len;simp
theorem A6{α:Type}(a:α)(b:List α):len (a::b)=len b+1:=by unfold len;simp
theorem O7{α:Type}(a:α)(b:List α):A3 (a::b) 1=b:=rfl
theorem len_nil{α:Type}:len ([]:List α)=0:=rfl
theorem HB{α:Type}(s:List α)(i j:Int):0<=len (Eng.sub s i j)/\len (Eng.sub s i j)<=len s:=by unfold Eng.sub len;simp;omega
theorem FB{α:Type}{s:List α}{i j:Int}(h0:0<=i)(h1:i<=j)(h2:j<=len s):len (Eng.sub s i j)=j-i:=by unfold Eng.sub len at*;simp;omega
theorem LU{α:Type}(s:List α)(i:Int):0<=len (A3 s i)/\len (A3 s i)<=len s:=by unfold A3 len;simp
theorem gM(s:A1):len (AT s)<=len s:=by
 have:=(List.dropWhile_sublist (([48]:A1).contains ·) (l:=s)).length_le
 unfold AT len;omega
theorem uI(s:A1):len (D7 s)<=len s:=by
 have:=(List.dropWhile_sublist (([48]:A1).contains ·) (l:=s.reverse)).length_le
 unfold D7 Lib.trimRightS len;simp at*;omega
theorem dropWhile_nil{α:Type}{p:α->Bool}: ∀ {l:List α},l.dropWhile p=[]-> ∀x∈l,p x=true
 |[],_,x,hx=>by cases hx
 |a::l,h,x,hx=>by
  rw[List.dropWhile_cons]at h
  split at h
  ·rename_i ha
   rcases List.mem_cons.1 hx with rfl|hx
   ·exact ha
   ·exact dropWhile_nil h x hx
  ·cases h
theorem Z5{s:A1}{b:UInt8}{l:A1}(h:AT s=b::l):(([48]:A1).contains b)=false:=by
 unfold AT at h
 induction s with
 |nil=>cases h
 |cons a s ih=>
  rw[List.dropWhile_cons]at h
  split at h
  ·exact ih h
  ·rename_i hn;cases h;simpa using hn
theorem gN(s:A1): ¬AT s=[]->0<len (D7 (AT s)):=by
 intro h
 cases hd:AT s with
 |nil=>exact absurd hd h
 |cons b l=>
  have hb:=Z5 hd
  have:D7 (b::l)≠[]:=by
   unfold D7 Lib.trimRightS
   intro hr
   rw[List.reverse_eq_nil_iff]at hr
   have:=dropWhile_nil hr b (by simp)
   rw[this]at hb;cases hb
  unfold len
  have:=List.length_pos_iff.2 this
  omega
theorem gO(u:Nat):(Lib.decDigits u).length<=u+1:=by
 induction u using Nat.strongRecOn with
 |_ u ih=>
  rw[Lib.decDigits]
  split
  ·simp
  ·have:=ih (u/10) (by omega)
   simp only[List.length_append,List.length_cons,List.length_nil];omega
theorem P7(n:Int):0<=len (Lib.itoa n)/\len (Lib.itoa n)<=n.natAbs+2:=by
 unfold Lib.itoa len
 have h1:=gO n.natAbs
 have h2:=gO n.toNat
 split
 ·simp only[List.length_cons];omega
 ·omega
def BK(s signs:A1)(p:Int):Bool:=decide (p<len s)&&decide (0<=Lib.indexByte signs (A2 s p).toNat.toUInt8)
def B3(s signs:A1)(p:Int):Int:=if BK s signs p then p+1 else p
theorem gP{s signs:A1}{p:Int}(h:BK s signs p=true):p<len s:=by unfold BK at h;simp only[Bool.and_eq_true,decide_eq_true_eq]at h;exact h.1
theorem O8(s signs:A1)(p:Int)(h:p<=len s):p<=B3 s signs p/\B3 s signs p<=len s:=by
 unfold B3;split
 ·rename_i h1;have:=gP h1;omega
 ·omega
theorem P8{s signs:A1}{p:Int}(h:BK s signs p=true):B3 s signs p=p+1:=by unfold B3;rw[if_pos h]
theorem N7{s signs:A1}{p:Int}(h:BK s signs p=false):B3 s signs p=p:=by unfold B3;rw[if_neg (by rw[h];simp)]
def G6(neg:Bool)(fg:A1)(x:Int)(pw:A1)(side:Int):Nd×Int×Int:=
 if 6<len (AT pw)then(B2,0,2)
 else((EL neg fg (x+side*BA (AT pw))).1,0,(EL neg fg (x+side*BA (AT pw))).2)
def O9(s:A1)(neg:Bool)(fg:A1)(x:Int)(c0:Int):Nd×Int×Int:=
 let m:=BK s [45] c0
 let c1:=if m then B3 s [45] c0 else B3 s [43] (B3 s [45] c0)
 let c2:=AI s c1
 let pw:=Eng.sub s c1 c2
 if pw=[]\/c2<len s then(B2,c2,1)else G6 neg fg x pw (if m then-1 else 1)
def FN(s:A1)(neg:Bool)(fg:A1)(x:Int)(b:Int):Nd×Int×Int:=
 if BK s [101,69] b then O9 s neg fg x (B3 s [101,69] b)
 else if B3 s [101,69] b<len s then(B2,B3 s [101,69] b,1)else G6 neg fg x [] 1
def BW(s:A1):Nd×Int×Int:=
 let neg:=BK s [45] 0
 let a0:=B3 s [45] 0
 let b0:=AI s a0
 let fg:=Eng.sub s a0 b0
 if 1<len fg/\A2 fg 0=48 then(B2,a0+1,1)
 else if fg=[]then(B2,b0,1)
 else if BK s [46] b0 then
  let b2:=AI s (B3 s [46] b0)
  let part:=Eng.sub s (B3 s [46] b0) b2
  if part=[]then(B2,b2,1)else FN s neg (fg++part) (-(len part)) b2
 else FN s neg fg 0 (B3 s [46] b0)
theorem uJ{s:A1}{i:Int}(h0:0<=i):Eng.sub s i (AI s i)=(A3 s i).takeWhile C5:=by
 have h1:(AI s i).toNat-i.toNat=((A3 s i).takeWhile C5).length:=by unfold AI len;omega
 unfold Eng.sub;rw[h1]
 exact(List.prefix_iff_eq_take.1 (List.takeWhile_prefix C5)).symm
theorem gQ{α:Type}{p:α->Bool}: ∀ {l:List α},∀x∈l.takeWhile p,p x=true
 |[],x,hx=>by cases hx
 |a::l,x,hx=>by
  rw[List.takeWhile_cons]at hx
  split at hx
  ·rename_i ha
   rcases List.mem_cons.1 hx with rfl|hx
   ·exact ha
   ·exact gQ x hx
  ·cases hx
theorem SN{s:A1}{i:Int}(h0:0<=i): ∀b∈Eng.sub s i (AI s i),C5 b=true:=by rw[uJ h0];exact gQ
theorem gR{l:A1}(h: ∀b∈l,C5 b=true): ∀b∈AT l,C5 b=true:=λ b hb=>h b ((List.dropWhile_sublist _).subset hb)
theorem V9: ∀(l:A1) (n:Int),(∀b∈l,C5 b=true)->0<=n->0<=l.foldl (λ n b=>n*10+((b.toNat:Int)-48)) n/\l.foldl (λ n b=>n*10+((b.toNat:Int)-48)) n<(n+1)*10^l.length
 |[],n,_,h0=>by simp;omega
 |a::l,n,h,h0=>by
  have ha:=h a (by simp)
  unfold C5 BG at ha
  simp only[Bool.and_eq_true,decide_eq_true_eq]at ha
  have:=V9 l (n*10+((a.toNat:Int)-48)) (λ b hb=>h b (by simp[hb])) (by omega)
  rw[List.foldl_cons]
  refine⟨this.1,Int.lt_of_lt_of_le this.2 ?_⟩
  have h1:(n+1)*10^ (a::l).length=((n+1)*10)*10^l.length:=by rw[List.length_cons,Int.pow_succ,Int.mul_comm (10^l.length) 10,<-Int.mul_assoc]
  rw[h1]
  exact Int.mul_le_mul_of_nonneg_right (by omega) (Int.le_of_lt (Int.pow_pos (by decide:(0:Int)<10)))
theorem Z6: ∀(l:A1) (n:Nat),(∀b∈l,C5 b=true)->(n+1)*10^l.length<=10000000->Lib.parseUint10 n l= .ok (l.foldl (λ n b=>n*10+((b.toNat:Int)-48)) (n:Int)).toNat
 |[],n,_,_=>by simp[Lib.parseUint10]
 |a::l,n,h,hl=>by
  have ha:=h a (by simp)
  unfold C5 BG at ha
  simp only[Bool.and_eq_true,decide_eq_true_eq]at ha
  have hn:n<10000000:=by
   have:(n+1)*1<=(n+1)*10^ (a::l).length:=Nat.mul_le_mul_left _ (Nat.pow_pos (by decide))
   omega
  have ih:=Z6 l (n*10+(a.toNat-48)) (λ b hb=>h b (by simp[hb])) (by
   have h1:(n+1)*10^ (a::l).length=((n+1)*10)*10^l.length:=by rw[List.length_cons,Nat.pow_succ,Nat.mul_comm (10^l.length) 10,<-Nat.mul_assoc]
   rw[h1]at hl
   exact Nat.le_trans (Nat.mul_le_mul_right _ (by omega)) hl)
  rw[Lib.parseUint10,if_pos (by omega),if_neg (by omega),if_neg (by omega),ih,List.foldl_cons]
  congr 3
  omega
theorem uK{l:A1}(h: ∀b∈l,C5 b=true)(hl:len l<=6):Lib.atoiAll ([48]++l)= .ok (BA l)/\0<=BA l/\BA l<1000000:=by
 have h1:=V9 l 0 h (by omega)
 have h2:(10:Int)^l.length<=10^6:=by
  have:(10:Nat)^l.length<=10^6:=Nat.pow_le_pow_right (by omega) (by unfold len at hl;omega)
  exact_mod_cast this
 have h3:=Z6 l 0 h (by
  have:(10:Nat)^l.length<=10^6:=Nat.pow_le_pow_right (by omega) (by unfold len at hl;omega)
  omega)
 have h4:0<=BA l/\BA l<1000000:=by unfold BA;omega
 refine⟨?_,h4⟩
 show Lib.atoiAll (48::l)=_
 have hm:Lib.parseMag (48::l)= .ok (BA l).toNat:=by
  unfold Lib.parseMag
  rw[if_neg (by simp),Lib.parseUint10,if_pos (by decide),if_neg (by decide),if_neg (by decide)]
  exact h3
 unfold Lib.atoiAll
 dsimp only
 rw[if_neg (by decide: ¬((48:UInt8).toNat=43\/(48:UInt8).toNat=45)),hm]
 dsimp only
 rw[if_neg (by omega),if_neg (by intro hh;exact absurd hh.1 (by decide)),if_neg (by decide)]
 congr 1;omega
end Go.Eng
