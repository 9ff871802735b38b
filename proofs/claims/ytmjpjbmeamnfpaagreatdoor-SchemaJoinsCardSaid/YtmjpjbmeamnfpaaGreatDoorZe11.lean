/-
  Parts Ib Xy Vals Kb Kg, put together and made short by wip/py/merge.py (mini.py).
-/
import Derived.Test.YtmjpjbmeamnfpaaGreatDoorZe10
import Derived.Test.YtmjpjbmeamnfpaaGreatDoorZe9
import Derived.Test.YtmjpjbmeamnfpaaGreatDoorZe4
import Derived.Test.YtmjpjbmeamnfpaaGreatDoorZe5
import Derived.Test.YtmjpjbmeamnfpaaGreatDoorProg
import Derived.Shelf.Spec.SlicesGrow
import Derived.Test.YtmjpjbmeamnfpaaGreatDoorZe0
set_option linter.unusedVariables false
set_option linter.unusedSimpArgs false
set_option maxRecDepth 100000
namespace Go.Proofs.YtmjpjbmeamnfpaaGreatDoor
open Go.Eng
abbrev EJ(b:Nat)(v:Value)(i d:Int):HO:=.box b [v,i64 i,i64 d] 86
abbrev AS(b:Nat)(v:Value)(i d:Int):HX:=.box b [.sl 0 v,I i,I d] 86
theorem DR{w0 wv:World}{M0 M:Mem}{Rs:List HO}{b:Nat}{v:Value}{l:List Tk}{i d:Int}(hS:St w0 M0 wv M (EJ b v i d::Rs))(hl:Sl M 9 l.length v (l.flatMap Tk.cells))(h0:0<=i)(h1:i<len l):
  Calls Tryz.prog 41 [.pointer (some ⟨b,0,none⟩)].toArray wv (CX w0 M0 M Rs (λ _:Unit=>bE (at' l i)) (λ _=>True) (λ _=>[]) λ _=>[EJ b v i d]):=by
 refine B3 (Hr:=Rs) AX Tryz.func41 U Tryz.ntmps41 [(0,kn v 9 l Tk.cells)] [(0,AS b v i d)] [.bx 0 b 0] U hS (fc 0 hl (λ _=>rfl) AA) (λ B hB=>?_) U
 refine CL 1 U (A0 U) (by omega) Tryz.zeroValue63 U λ b1=>?_
 refine qT 10 (λ _ _ _ _ _ h=>h) U (A0 U) (by omega) EV (by decide+kernel) U (A0 U) (by simp only[zb]<;>omega) ?_
 exact AH hB rfl rfl (A0 rfl) (by omega) rfl (A0 rfl) λ w M' hX=>⟨(),M',rfl,trivial,hX.le,hX.st.drop _ (List.sublist_cons_self _ _),λ x h=>by cases h⟩
theorem I9{w0 wv:World}{M0 M:Mem}{Rs:List HO}{b:Nat}{v:Value}{l:List Tk}{i d:Int}(m:A1)(hS:St w0 M0 wv M (EJ b v i d::Rs))(hl:Sl M 9 l.length v (l.flatMap Tk.cells))(h0:0<=i)(h1:i<len l):
  Calls Tryz.prog 63 [.pointer (some ⟨b,0,none⟩),str m].toArray wv (CX w0 M0 M Rs (λ _:Unit=>.bool (A9 l i m)) (λ _=>True) (λ _=>[]) λ _=>[EJ b v i d]):=by
 refine B3 (Hr:=Rs) AX Tryz.func63 U Tryz.ntmps63 [(0,kn v 9 l Tk.cells)] [(0,AS b v i d)] [.bx 0 b 0,.v (str m)] U hS (fc 0 hl (λ _=>rfl) AA) (λ B hB=>?_) U
 refine B9 [0] (λ _:Unit=>DA (at' l i)) [] (λ _=>[(0,AS b v i d)]) U (A0 U) (by omega) U Tryz.call41 U U (A0 U) U (λ w M hS hF=>DR hS (hF.get (k:=0) U).sl h0 h1) (λ _=>rfl) (λ _=>rfl) λ _ _=>?_
 refine IX (DA (at' l i)) U (A0 U) (by omega) U (λ hb1=>?_) (λ hb1=>?_)
 ·refine B9 [0] (λ _:Unit=>DA (at' l i)) [] (λ _=>[(0,AS b v i d)]) U (A0 U) (by omega) U Tryz.call41 U U (OE hb1 U) U (λ w M hS hF=>DR hS (hF.get (k:=0) U).sl h0 h1) (λ _=>rfl) (λ _=>rfl) λ _ _=>?_
  exact AH hB rfl rfl (A0 rfl) (by omega) rfl (A0 rfl) λ w M' hX=>⟨(),M',rfl,trivial,hX.le,hX.st,λ x h=>by cases h⟩
 ·exact AH hB rfl rfl (A0 rfl) (by omega) rfl (A0 rfl) λ w M' hX=>⟨(),M',rfl,trivial,hX.le,hX.st,λ x h=>by cases h⟩
abbrev sI(w0:World)(M0 M:Mem)(Rs:List HO)(ec p:Int):Ending->World->Prop:=λ e w'=> ∃M',e= .panicked [L9 82 ec p]/\St w0 M0 w' M' Rs/\M.le M'
theorem HP{w0 wv:World}{M0 M:Mem}{Rs:List HO}{b:Nat}{v:Value}{i d:Int}(t:Tk)(ec:Int)(hS:St w0 M0 wv M (EJ b v i d::Rs)):
  Calls Tryz.prog 42 [.pointer (some ⟨b,0,none⟩),bE t,i64 ec].toArray wv (sI w0 M0 M Rs ec t.pos):=by
 refine B3 (Hr:=EJ b v i d::Rs) AX Tryz.func42 U Tryz.ntmps42 [] [] [.v (.pointer (some ⟨b,0,none⟩)),DA t,I ec] U hS AA (λ B hB=>?_) U
 refine F6 4 U (A0 U) (by omega) U U (A0 U) λ b4=>?_
 refine DT (.v (.iface 82 (.agg #[i64 ec,i64 t.pos]))) U (A0 U) (by omega) U (λ w M hX=>PV.iface (v:=.agg #[i64 ec,i64 t.pos]) (AT (v:=.ag [I ec,I t.pos]) (E:=[]) U (A0 U)) Tryz.underlying82 U) ?_
 exact qU U (A0 U) (by omega) U (A0 U) U λ a w M hs hX=>E5 [] (hB.p ⟨M,rfl,hX.st.drop _ (List.sublist_append_right [_,_] _),hX.le⟩ a hs)
abbrev OW(w0:World)(M0 M:Mem)(Rs:List HO)(b:Nat)(v:Value)(r:PR Unit)(d:Int):Ending->World->Prop:=
 LG w0 M0 M Rs 82 r λ _ j=>CX w0 M0 M Rs (λ _:Unit=>.tuple #[]) (λ _=>True) (λ _=>[]) λ _=>[EJ b v j d]
theorem OX{w0 wv:World}{M0 M:Mem}{Rs:List HO}{b:Nat}{v:Value}{l:List Tk}{i d:Int}(m:A1)(hS:St w0 M0 wv M (EJ b v i d::Rs))(hl:Sl M 9 l.length v (l.flatMap Tk.cells))(h0:0<=i)(h1:i<len l)(hb:len l<=1099511627776):
  Calls Tryz.prog 97 [.pointer (some ⟨b,0,none⟩),str m].toArray wv (OW w0 M0 M Rs b v (AR l i m) d):=by
 refine B3 (Hr:=Rs) AX Tryz.func97 U Tryz.ntmps97 [(0,kn v 9 l Tk.cells)] [(0,AS b v i d)] [.bx 0 b 0,.v (str m)] U hS (fc 0 hl (λ _=>rfl) AA) (λ B hB=>?_) U
 refine B9 [0] (λ _:Unit=>.v (.bool (A9 l i m))) [] (λ _=>[(0,AS b v i d)]) U (A0 U) (by omega) U Tryz.call63 U U (A0 U) U (λ w M hS hF=>I9 m hS (hF.get (k:=0) U).sl h0 h1) (λ _=>rfl) (λ _=>rfl) λ _ _=>?_
 refine AB U (A0 U) (by omega) (λ hb1=>?_) (λ hb1=>?_)
 ·have e:AR l i m= .er 1 (at' l i).pos:=by unfold AR B8;rw[if_neg (by simpa using hb1)]
  refine B9 [0] (λ _:Unit=>DA (at' l i)) [] (λ _=>[(0,AS b v i d)]) U (A0 U) (by omega) U Tryz.call41 U U (A0 U) U (λ w M hS hF=>DR hS (hF.get (k:=0) U).sl h0 h1) (λ _=>rfl) (λ _=>rfl) λ _ _=>?_
  refine F7 [0] U (A0 U) (by omega) U Tryz.call42 U (A0 U) U (λ w M hS hF=>HP (at' l i) 1 hS) λ a w M hs hS hle=>E5 _ (hB.p ?_ a hs)
  rw[e];exact⟨M,rfl,hS,hle⟩
 ·have e:AR l i m= .ok () (i+1):=by unfold AR;rw[if_pos (by simpa using hb1)]
  refine QI hB U U (A0 U) (by simp only[zb]<;>omega) λ w M' hX=>?_
  rw[e];exact⟨(),M',rfl,trivial,hX.le,hX.st,λ x h=>by cases h⟩
theorem U8{w0 wv:World}{M0 M:Mem}{Rs:List HO}{b:Nat}{v:Value}{l:List Tk}{i d:Int}(m:A1){r:PR Unit}(h:AR l i m=r)(hS:St w0 M0 wv M (EJ b v i d::Rs))(hl:Sl M 9 l.length v (l.flatMap Tk.cells))(h0:0<=i)(h1:i<len l)(hb:len l<=1099511627776):
 Calls Tryz.prog 97 [.pointer (some ⟨b,0,none⟩),str m].toArray wv (OW w0 M0 M Rs b v r d):=by subst h;exact OX m hS hl h0 h1 hb
theorem sJ{w0 wv:World}{M0 M:Mem}{Rs:List HO}{b:Nat}{v:Value}{l:List Tk}{i d:Int}(m:A1)(hS:St w0 M0 wv M (EJ b v i d::Rs))(hl:Sl M 9 l.length v (l.flatMap Tk.cells))(h0:0<=i)(h1:i<len l)(hb:len l<=1099511627776)(hd:0<=d/\d<=64):
  Calls Tryz.prog 95 [.pointer (some ⟨b,0,none⟩),str m].toArray wv (OW w0 M0 M Rs b v (C9 l d i m) (d+1)):=by
 refine B3 (Hr:=Rs) AX Tryz.func95 U Tryz.ntmps95 [(0,kn v 9 l Tk.cells)] [(0,AS b v i d)] [.bx 0 b 0,.v (str m)] U hS (fc 0 hl (λ _=>rfl) AA) (λ B hB=>?_) U
 refine B9 [0] (λ _:Unit=>.v (.bool (A9 l i m))) [] (λ _=>[(0,AS b v i d)]) U (A0 U) (by omega) U Tryz.call63 U U (A0 U) U (λ w M hS hF=>I9 m hS (hF.get (k:=0) U).sl h0 h1) (λ _=>rfl) (λ _=>rfl) λ _ _=>?_
 refine AB U (A0 U) (by simp only[zb]<;>omega) (λ hb1=>?_) (λ hb1=>?_)
 ·have e:C9 l d i m= .er 3 (at' l i).pos:=by unfold C9 B8;rw[if_pos hb1]
  refine B9 [0] (λ _:Unit=>DA (at' l i)) [] (λ _=>[(0,AS b v i d)]) U (A0 U) (by omega) U Tryz.call41 U U (A0 U) U (λ w M hS hF=>DR hS (hF.get (k:=0) U).sl h0 h1) (λ _=>rfl) (λ _=>rfl) λ _ _=>?_
  refine F7 [0] U (A0 U) (by omega) U Tryz.call42 U (A0 U) U (λ w M hS hF=>HP (at' l i) 3 hS) λ a w M hs hS hle=>E5 _ (hB.p ?_ a hs)
  rw[e];exact⟨M,rfl,hS,hle⟩
 ·have e:C9 l d i m=AR l i m:=by unfold C9;rw[if_neg (by rw[hb1];decide)]
  cases hm:A9 l i m with
  |false=>
   have e2:AR l i m= .er 1 (at' l i).pos:=by unfold AR B8;rw[if_neg (by rw[hm];decide)]
   refine F7 [0] U (A0 U) (by omega) U Tryz.call97 U (A0 U) U (λ w M hS hF=>U8 m e2 hS (hF.get (k:=0) U).sl h0 h1 hb) λ a w M hs hS hle=>E5 _ (hB.p ?_ a hs)
   rw[e,e2];exact⟨M,rfl,hS,hle⟩
  |true=>
   have e2:AR l i m= .ok () (i+1):=by unfold AR;rw[if_pos hm]
   refine B9 [0] (λ _:Unit=>.tu []) [] (λ _=>[(0,AS b v (i+1) d)]) U (A0 U) (by omega) U Tryz.call97 U U (A0 U) U (λ w M hS hF=>U8 m e2 hS (hF.get (k:=0) U).sl h0 h1 hb) (λ _=>rfl) (λ _=>rfl) λ _ _=>?_
   refine QI hB U U (A0 U) (by simp only[zb]<;>omega) λ w M' hX=>?_
   rw[e,e2];exact⟨(),M',rfl,trivial,hX.le,hX.st,λ x h=>by cases h⟩
theorem sK{w0 wv:World}{M0 M:Mem}{Rs:List HO}{b:Nat}{v:Value}{l:List Tk}{i d:Int}(m:A1)(hS:St w0 M0 wv M (EJ b v i d::Rs))(hl:Sl M 9 l.length v (l.flatMap Tk.cells))(h0:0<=i)(h1:i<len l)(hb:len l<=1099511627776)(hd:0<=d/\d<=65):
  Calls Tryz.prog 96 [.pointer (some ⟨b,0,none⟩),str m].toArray wv (OW w0 M0 M Rs b v (AR l i m) (d-1)):=by
 refine B3 (Hr:=Rs) AX Tryz.func96 U Tryz.ntmps96 [(0,kn v 9 l Tk.cells)] [(0,AS b v i d)] [.bx 0 b 0,.v (str m)] U hS (fc 0 hl (λ _=>rfl) AA) (λ B hB=>?_) U
 cases hm:A9 l i m with
 |false=>
  have e2:AR l i m= .er 1 (at' l i).pos:=by unfold AR B8;rw[if_neg (by rw[hm];decide)]
  refine F7 [0] U (A0 U) (by omega) U Tryz.call97 U (A0 U) U (λ w M hS hF=>U8 m e2 hS (hF.get (k:=0) U).sl h0 h1 hb) λ a w M hs hS hle=>E5 _ (hB.p ?_ a hs)
  rw[e2];exact⟨M,rfl,hS,hle⟩
 |true=>
  have e2:AR l i m= .ok () (i+1):=by unfold AR;rw[if_pos hm]
  refine B9 [0] (λ _:Unit=>.tu []) [] (λ _=>[(0,AS b v (i+1) d)]) U (A0 U) (by omega) U Tryz.call97 U U (A0 U) U (λ w M hS hF=>U8 m e2 hS (hF.get (k:=0) U).sl h0 h1 hb) (λ _=>rfl) (λ _=>rfl) λ _ _=>?_
  refine QI hB U U (A0 U) (by simp only[zb]<;>omega) λ w M' hX=>?_
  rw[e2];exact⟨(),M',rfl,trivial,hX.le,hX.st,λ x h=>by cases h⟩
end Go.Proofs.YtmjpjbmeamnfpaaGreatDoor
namespace Go.Eng
open Go.RowKit
theorem sL{P:Program}{N:Nat}{w0 w:World}{M0 M:Mem}{Hr:List HO}{T:TT}(hT:DI P T){f:FuncId}{fn:Func}{x:Code}{R:Ending->World->Prop}(hf:P.funcs[f]? =some fn)(hb:fn.body=some x)(hn:fn.ntmps=N)(hst:CR x=true)(ho: ∀w,¬R .outgrown w)
  (F:List (Nat×Kn)) (H:List (Nat×HX)) (vs:List XV) (hl:Nat.ble vs.length N=true) (hS:St w0 M0 w M (HD H++Hr)) (hF:B7 M F)
  (h: ∀B,Ends P fn R B->XG ⟨P,N,w0,M0,M,Hr,T,hT,.TP P none 1⟩ B [] (.code x) ⟨F,H,K9 0 vs⟩) {av:List Value} (ha:vs.map XV.d=av):Calls P f av.toArray w R:=by
 subst ha
 refine(callsIn_wide (n:=1)).1 (callsIn_of_wp_marks hf hb trivial ?_ U)
 rw[hn]
 have hs:=AF.enter (vs.map XV.d) N (by rw[List.length_map];exact Nat.le_of_ble_eq_true hl)
 have hE:KC P fn R (bodyPostM Fence.wide 1 P fn R):=⟨λ _ _ _ h=>h⟩
 have:=h _ hE.ends _ w ⟨by rw[<-O5]at hs;exact hs,M,hS,hF,Mem.le.refl _⟩
 exact this (λ⟨a,w,q⟩=>ho w q) hst
theorem sM{P:Program}{w:World}{L:Env}{W:Bool}{l:Nat}{x:Operand}{xs:List Operand}{vs:List Value}(hf:A5 L W x (.func (.yield l) #[] #[]))(hx:DE L W xs vs){a:Act}{N:Nat}(hs:AF a N L)(hW:W=true){d:Option Tmp}{tys:Array TypeId}{ty:TypeId}{ps:String}{af:Array Edge}{gd:Option (Nat×Bool)}:
  (execOp a.eval ⟨d,.call ⟨.value x,xs.toArray,tys⟩,ty,ps,af,gd⟩).run P w=(Instr.yield l vs.toArray).run P w:=by
 have e:xs.toArray.map a.eval=vs.toArray:=by rw[List.map_toArray,DE.map hs hW xs vs hx]
 simp only[execOp,resolve,e,hf a N hs hW,Deferred.ofValue,invoke,Sem.run_bind,Sem.run_pure,Result.andThen_ok]
 simp
end Go.Eng
namespace Go.Eng
open Go.RowKit
structure AO where
 a:Option Addr
 n:Nat
 c:Nat
deriving Inhabited
def DB(h:AO):List Value:=[.slice h.a h.n h.c]
theorem EX(h:AO):(DB h).length=1:=rfl
theorem Y4(h:AO): ∀u∈DB h,u.oneCell'=true:=by intro u hu;simp[DB]at hu;subst hu;rfl
abbrev AO.v (h:AO):Value:=.slice h.a h.n h.c
def CK{α:Type}(M:Mem)(sz:Nat)(f:α->List Value):List AO->List (List α)->Prop
 |[],[]=>True
 |h::hs,x::xs=>Sl M sz x.length h.v (x.flatMap f)/\CK M sz f hs xs
 |_,_=>False
section
variable {α:Type} {M M':Mem} {sz:Nat} {f:α->List Value}
theorem CK.mono (hm:M.le M'): ∀ {hs:List AO} {xs:List (List α)},CK M sz f hs xs->CK M' sz f hs xs
 |[],[],_=>trivial
 |_::_,_::_,h=>⟨h.1.mono hm,CK.mono hm h.2⟩
 |[],_::_,h=>h.elim
 |_::_,[],h=>h.elim
theorem CK.snoc {h:AO}{x:List α}(hx:Sl M sz x.length h.v (x.flatMap f)): ∀ {hs:List AO} {xs:List (List α)},CK M sz f hs xs->CK M sz f (hs++[h]) (xs++[x])
 |[],[],_=>⟨hx,trivial⟩
 |_::_,_::_,h=>⟨h.1,CK.snoc hx h.2⟩
 |[],_::_,h=>h.elim
 |_::_,[],h=>h.elim
theorem CK.len: ∀ {hs:List AO} {xs:List (List α)},CK M sz f hs xs->hs.length=xs.length
 |[],[],_=>rfl
 |_::_,_::_,h=>by simp[CK.len h.2]
 |[],_::_,h=>h.elim
 |_::_,[],h=>h.elim
theorem CK.get: ∀ {hs:List AO} {xs:List (List α)} (k:Nat),CK M sz f hs xs->k<hs.length->Sl M sz (xs.getD k []).length (hs.getD k default).v ((xs.getD k []).flatMap f)
 |[],_,_,_,h=>absurd h (Nat.not_lt_zero _)
 |_::_,[],_,h,_=>h.elim
 |_::_,_::_,0,h,_=>h.1
 |_::_,_::_,k+1,h,hk=>by simpa using CK.get k h.2 (by simpa using hk)
end
theorem CK.at {α:Type}{M:Mem}{sz:Nat}{f:α->List Value}{hs:List AO}{xs:List (List α)}{k:Int}(h:CK M sz f hs xs)(h0:0<=k)(h1:k<Eng.len hs):Sl M sz (at' xs k).length (at' hs k).v ((at' xs k).flatMap f):=
 by
 have:=CK.get k.toNat h (by unfold Eng.len at h1;omega)
 exact this
end Go.Eng
set_option maxRecDepth 100000
namespace Go.Proofs.YtmjpjbmeamnfpaaGreatDoor
open Go.Eng
abbrev Y5(F:List (Nat×Kn)):Kn:=⟨.slice none 0 0,1,([]:List A1),AW,λ M=>B7 M F,λ _ _ hm h=>h.mono hm⟩
end Go.Proofs.YtmjpjbmeamnfpaaGreatDoor
namespace Go.Eng
open Go.RowKit
theorem St.sN {w0 w:World}{M0 M:Mem}{Hs:List HO}(h:St w0 M0 w M Hs)(e:TypeId)(sz cap:Nat)(cur:Array Value)(hc:cur.size=cap*sz)(hm:cap<=maxLen):
  St w0 M0 (w.alloc (.cells cur e)) M (.priv e sz (.slice (some ⟨w.heap.size,0,none⟩) 0 cap) 0 []::Hs):=by
 have h1:=h.ext (Ext.alloc w (.cells cur e))
 refine⟨h1.low,h1.sat,h1.old,λ x hx=>?_,List.pairwise_cons.2 ⟨λ y hy b hb=>?_,h.apart⟩⟩
 ·rcases List.mem_cons.1 hx with rfl|hx
  ·refine⟨⟨by simp,.inr ⟨w.heap.size,cap,cur,rfl,h.size,heap_alloc_new _ _,Nat.zero_le _,hm,hc,by simp⟩⟩,λ b hb o=>?_⟩
   simp only[Value.ownBlock,Option.some.injEq]at hb;subst hb
   exact h.PO (Nat.le_refl _) o
  ·exact h1.ok x hx
 ·simp only[HO.DF,Value.ownBlock,Option.some.injEq]at hb;subst hb
  intro hy'
  have:=(HO.ok.lt (h.ok y hy) hy').2
  omega
end Go.Eng
namespace Go.Proofs.YtmjpjbmeamnfpaaGreatDoor
open Go.Eng Go.RowKit
end Go.Proofs.YtmjpjbmeamnfpaaGreatDoor
