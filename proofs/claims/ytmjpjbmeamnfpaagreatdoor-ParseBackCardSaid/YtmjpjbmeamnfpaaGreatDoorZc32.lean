/-
  Parts Kf EngS Xm, put together and made short by wip/py/merge.py (mini.py).
-/
import Derived.Test.YtmjpjbmeamnfpaaGreatDoorZc31
import Derived.Test.YtmjpjbmeamnfpaaGreatDoorZc21
import Derived.Test.YtmjpjbmeamnfpaaGreatDoorZc22
import Derived.Test.YtmjpjbmeamnfpaaGreatDoorZc4
import Derived.Test.YtmjpjbmeamnfpaaGreatDoorZc13
import Derived.Test.YtmjpjbmeamnfpaaGreatDoorZc0
set_option linter.unusedVariables false
set_option linter.unusedSimpArgs false
set_option maxRecDepth 100000
namespace Go.Proofs.YtmjpjbmeamnfpaaGreatDoor
open Go.Eng
structure HA (w0 wv:World) (M0 M:Mem) (Rs:List HO) (b:Nat) (v:Value) (l:List Tk) (i d:Int):Prop where
 st:St w0 M0 wv M (CQ b v i d::Rs)
 sl:Sl M 9 l.length v (l.flatMap Tk.cells)
 g:Gl w0
 ok:IE l
 h0:0<=i
 h1:i<len l
abbrev WZ{α:Type}(w0:World)(M0 M:Mem)(Rs:List HO)(b:Nat)(v:Value)(d:Int)(r:PR α)(u:α->Value):Ending->World->Prop:=
 KO w0 M0 M Rs 56 r λ x j=>DQ w0 M0 M Rs (λ _:Unit=>u x) (λ _=>True) (λ _=>[]) λ _=>[CQ b v j d]
theorem AM4{w0 wv:World}{M0 M:Mem}{Rs:List HO}{b:Nat}{v:Value}{l:List Tk}{i d:Int}(h:HA w0 wv M0 M Rs b v l i d):
    Calls Tryz.prog 127 [.pointer (some ⟨b,0,none⟩)].toArray wv (WZ w0 M0 M Rs b v d (FL l i) λ n=>i64 n):=by
 obtain⟨hS,hl,hg,ok,h0,h1⟩:=h
 have hfew:=ok.E9
 have hnum:=ok.num _ (at_mem h0 h1)
 have hcs:=AA (A2 l i).c.s
 refine B8 (Hr:=Rs) B3 Tryz.func127 U Tryz.ntmps127 [(0,kn v 9 l Tk.cells)] [(0,AW b v i d)] [.bx 0 b 0] U hS (fc 0 hl (λ _=>rfl) AF) (λ B hB=>?_) U
 refine DY [0] (FO (A2 l i)) U (A0 U) (by omega) Tryz.call25 U U (A0 U) U (λ _ w M hS hF=>G9 hS (hF.get (k:=0) U).sl h0 h1) U ?_
 refine CY 1 U (A0 U) (by omega) Tryz.zeroValue63 U λ b1=>?_
 refine AE U (A0 U) (by simp only[zb]<;>omega) (λ hb1=>?_) (λ hb1=>?_)<;>simp only[zb]at hb1
 ·have e:FL l i= .er 1 (A2 l i).pos:=by
   unfold FL CG
   rw[if_pos (by simpa only[or_assoc]using hb1)]
  refine BK [0] U (A0 U) (by omega) U Tryz.call26 U (A0 U) U (λ w M hS hF=>JW 1 hS (hF.get (k:=0) U).sl h0 h1) λ a w M hs hS hle=>BC _ (hB.p ?_ a hs)
  rw[e];exact⟨M,rfl,hS.drop _ (List.sublist_cons_self _ _),hle⟩
 ·have hk: ¬((A2 l i).kind≠5\/(A2 l i).c.neg=true\/(A2 l i).c.e<0\/7<len (A2 l i).c.s+(A2 l i).c.e):=by
   rintro(q|q|q|q)
   · exact q hb1.1.1.1
   · rw[q]at hb1;cases hb1.1.1.2
   · omega
   · omega
  have h5:(A2 l i).kind=5:=Decidable.byContradiction λ q=>hk (.inl q)
  have he: ¬(A2 l i).c.e<0:=λ q=>hk (.inr (.inr (.inl q)))
  have hs7: ¬7<len (A2 l i).c.s+(A2 l i).c.e:=λ q=>hk (.inr (.inr (.inr q)))
  obtain⟨ha,ha0,ha1⟩:=yR ok h0 h1 h5 (by omega) (by omega)
  have hrl:len (List.replicate (A2 l i).c.e.toNat (48:UInt8))=(A2 l i).c.e:=by unfold len;rw[List.length_replicate];omega
  refine SN U (A0 U) (by omega) IA (by decide+kernel) ?_
  refine QC U (A0 U) (by simp only[zb,A7,len_nil]<;>omega) Tryz.call169 U U (A0 U) (λ _ w M hX=>rI 48 (A2 l i).c.e w (by omega) (by omega)) U ?_
  refine QC U (A0 U) (by simp only[zb,A7,len_nil,A5]<;>omega) Tryz.call120 U U (A0 U) (λ _ w M hX=>eP _ _ w (by simp only[A7,len_nil,A5];omega) ha) U ?_
  refine SP U (A0 U) (by simp only[zb]<;>omega) ?_
  refine AE U (A0 U) (by simp only[zb]<;>omega) (λ hb2=>?_) (λ hb2=>?_)<;>simp only[zb]at hb2
  ·have e:FL l i= .er 1 (A2 l i).pos:=by
    unfold FL CG
    rw[if_neg hk,if_pos hb2]
   refine BK [0] U (A0 U) (by omega) U Tryz.call26 U (A0 U) U (λ w M hS hF=>JW 1 hS (hF.get (k:=0) U).sl h0 h1) λ a w M hs hS hle=>BC _ (hB.p ?_ a hs)
   rw[e];exact⟨M,rfl,hS.drop _ (List.sublist_cons_self _ _),hle⟩
  ·have e:FL l i= .ok (KJ (A2 l i)) (i+1):=by
    unfold FL
    rw[if_neg hk,if_neg (by omega)]
   refine AD hB U U (A0 U) (by simp only[zb]<;>omega) U (A0 U) λ w M' hX=>?_
   rw[e];exact⟨(),M',rfl,trivial,hX.le,hX.st.drop _ (List.sublist_cons_self _ _),AF⟩
theorem X1{w0 wv:World}{M0 M:Mem}{Rs:List HO}{b:Nat}{v:Value}{l:List Tk}{i d:Int}{r:PR Int}(e:FL l i=r)(h:HA w0 wv M0 M Rs b v l i d):
 Calls Tryz.prog 127 [.pointer (some ⟨b,0,none⟩)].toArray wv (WZ w0 M0 M Rs b v d r λ n=>i64 n):=by subst e;exact AM4 h
abbrev HW(w0:World)(M0 M:Mem)(Rs:List HO)(b:Nat)(v:Value)(d:Int)(r:PR Tf):Ending->World->Prop:=
 KO w0 M0 M Rs 56 r λ x j=>DQ w0 M0 M Rs (λ h:AJ=>h.v) (λ _=>True) (λ _=>[]) λ h=>[CQ b v j d,VM h.v x.flat]
theorem ME{w0 wv:World}{M0 M:Mem}{Rs:List HO}(t:Tm)(hS:St w0 M0 wv M Rs):
 Calls Tryz.prog 122 [.agg t.cells.toArray,.slice none 0 0].toArray wv (LU w0 M0 M Rs (Tf.mk t []).flat):=VO t (.slice none 0 0) [] [] hS ⟨Sl.nil M 1,CL,trivial⟩ (by decide) (by decide)
theorem AM5{w0 wv:World}{M0 M:Mem}{Rs:List HO}{b:Nat}{v:Value}{l:List Tk}{i d:Int}(hk:(A2 l i).kind=3\/AL l i [91]=true)(h:HA w0 wv M0 M Rs b v l i d):
    Calls Tryz.prog 82 [.pointer (some ⟨b,0,none⟩)].toArray wv (HW w0 M0 M Rs b v d (HK l i)):=by
 obtain⟨hS,hl,hg,ok,h0,h1⟩:=h
 have hfew:=ok.E9
 have hi1:i+1<len l:=hk.elim (λ q=>IF ok h0 h1 q (by decide)) (GO ok h0 h1)
 refine B8 (Hr:=Rs) B3 Tryz.func82 U Tryz.ntmps82 [(0,kn v 9 l Tk.cells)] [(0,AW b v i d)] [.bx 0 b 0] U hS (fc 0 hl (λ _=>rfl) AF) (λ B hB=>?_) U
 refine DY [0] (FO (A2 l i)) U (A0 U) (by omega) Tryz.call25 U U (A0 U) U (λ _ w M hS hF=>G9 hS (hF.get (k:=0) U).sl h0 h1) U ?_
 refine CY 1 U (A0 U) (by omega) Tryz.zeroValue63 U λ b1=>?_
 refine AE U (A0 U) (by simp only[zb]<;>omega) (λ hb1=>?_) (λ hb1=>?_)<;>simp only[zb]at hb1
 ·have e:HK l i= .ok (.mk { AH 1 with s:=(A2 l i).s} []) (i+1):=by unfold HK;rw[if_pos hb1]
  refine AU [] (λ h:AJ=>.sl 2 h.v) [] (λ h=>[(2,B6 h.v (Tf.mk { AH 1 with s:=(A2 l i).s} []).flat)]) U (A0 U) (by omega) U Tryz.call122 U U (A0 U) U (λ w M hS hF=>ME { AH 1 with s:=(A2 l i).s} hS) (λ _=>rfl) (λ _=>rfl) λ h2 _=>?_
  refine AD hB U U (A0 U) (by simp only[zb]<;>omega) U (A0 U) λ w M' hX=>?_
  rw[e];exact⟨h2,M',rfl,trivial,hX.le,hX.CR [0,2] U,AF⟩
 ·have hm:=hk.resolve_left hb1
  have e:HK l i=(FL l (i+1)).bind λ n j=>if AL l j [58]then(BV l (j+1) [93]).bind λ _ k=>.ok (.mk { AH 3 with n:=n} []) k else(BV l j [93]).bind λ _ k=>.ok (.mk { AH 2 with n:=n} []) k:=by unfold HK;rw[if_neg hb1]
  rw[e]at hB
  cases hw:FL l (i+1)with
  |er ec p=>
   rw[hw]at hB
   exact BK [0] U (A0 U) (by omega) U Tryz.call127 U (A0 U) U (λ w M hS hF=>X1 hw ⟨hS,(hF.get (k:=0) U).sl,hg,ok,by omega,hi1⟩) λ a w M hs hS hle=>BC _ (hB.p ⟨M,rfl,hS.drop _ (List.sublist_cons_self _ _),hle⟩ a hs)
  |ok n j=>
   rw[hw]at hB
   obtain⟨rfl,hj1,_,_⟩:=T4 ok (by omega) hi1 hw
   refine AU [0] (λ _:Unit=>I n) [] (λ _=>[(0,AW b v (i+1+1) d)]) U (A0 U) (by omega) U Tryz.call127 U U (A0 U) U (λ w M hS hF=>X1 hw ⟨hS,(hF.get (k:=0) U).sl,hg,ok,by omega,hi1⟩) (λ _=>rfl) (λ _=>rfl) λ _ _=>?_
   refine CY 2 U (A0 U) (by omega) Tryz.zeroValue51 U λ b2=>?_
   refine DY [0] (.v (.bool (AL l (i+1+1) [58]))) U (A0 U) (by omega) Tryz.call50 U U (A0 U) U (λ _ w M hS hF=>HT [58] hS (hF.get (k:=0) U).sl (by omega) hj1) U ?_
   refine AE U (A0 U) (by omega) (λ hb2=>?_) (λ hb2=>?_)
   ·have hj2:=GO ok (by omega) hj1 hb2
    simp only[PR.bind,hb2,if_true]at hB
    cases hn:BV l (i+1+1+1) [93]with
    |er ec p=>
     rw[hn]at hB
     exact BK [0] U (A0 U) (by simp only[zb]<;>omega) U Tryz.call128 U (A0 U) U (λ w M hS hF=>IB _ hn hS (hF.get (k:=0) U).sl (by omega) hj2 (by omega)) λ a w M hs hS hle=>BC _ (hB.p ⟨M,rfl,hS.drop _ QY,hle⟩ a hs)
    |ok u k=>
     rw[hn]at hB
     obtain⟨rfl,hk1,_⟩:=GB ok (by omega) hj2 hn
     refine AU [0] (λ _:Unit=>.tu []) [] (λ _=>[(0,AW b v (i+1+1+1+1) d)]) U (A0 U) (by simp only[zb]<;>omega) U Tryz.call128 U U (A0 U) U (λ w M hS hF=>IB _ hn hS (hF.get (k:=0) U).sl (by omega) hj2 (by omega)) (λ _=>rfl) (λ _=>rfl) λ _ _=>?_
     refine AU [] (λ h:AJ=>.sl 3 h.v) [] (λ h=>[(3,B6 h.v (Tf.mk { AH 3 with n:=n} []).flat)]) U (A0 U) (by omega) U Tryz.call122 U U (A0 U) U (λ w M hS hF=>ME { AH 3 with n:=n} hS) (λ _=>rfl) (λ _=>rfl) λ h3 _=>?_
     exact AD hB U U (A0 U) (by omega) U (A0 U) λ w M' hX=>⟨h3,M',rfl,trivial,hX.le,hX.CR [0,3] U,AF⟩
   ·simp only[PR.bind,hb2,Bool.false_eq_true,if_false]at hB
    cases hn:BV l (i+1+1) [93]with
    |er ec p=>
     rw[hn]at hB
     exact BK [0] U (A0 U) (by simp only[zb]<;>omega) U Tryz.call128 U (A0 U) U (λ w M hS hF=>IB _ hn hS (hF.get (k:=0) U).sl (by omega) hj1 (by omega)) λ a w M hs hS hle=>BC _ (hB.p ⟨M,rfl,hS.drop _ QY,hle⟩ a hs)
    |ok u k=>
     rw[hn]at hB
     obtain⟨rfl,hk1,_⟩:=GB ok (by omega) hj1 hn
     refine AU [0] (λ _:Unit=>.tu []) [] (λ _=>[(0,AW b v (i+1+1+1) d)]) U (A0 U) (by simp only[zb]<;>omega) U Tryz.call128 U U (A0 U) U (λ w M hS hF=>IB _ hn hS (hF.get (k:=0) U).sl (by omega) hj1 (by omega)) (λ _=>rfl) (λ _=>rfl) λ _ _=>?_
     refine AU [] (λ h:AJ=>.sl 3 h.v) [] (λ h=>[(3,B6 h.v (Tf.mk { AH 2 with n:=n} []).flat)]) U (A0 U) (by omega) U Tryz.call122 U U (A0 U) U (λ w M hS hF=>ME { AH 2 with n:=n} hS) (λ _=>rfl) (λ _=>rfl) λ h3 _=>?_
     exact AD hB U U (A0 U) (by omega) U (A0 U) λ w M' hX=>⟨h3,M',rfl,trivial,hX.le,hX.CR [0,3] U,AF⟩
def FZ(l:List A1)(x:A1):Int:=if x∈l then(l.idxOf x:Nat)else-1
theorem nJ{x:A1}: ∀ {l:List A1} {n:Nat} (h:n<l.length),l[n]=x->l.idxOf x<=n
 |[],n,h,_=>absurd h (Nat.not_lt_zero _)
 |a::l,0,h,hx=>by
  have:a=x:=hx
  rw[List.idxOf_cons,this];simp
 |a::l,n+1,h,hx=>by
  have:=nJ (l:=l) (n:=n) (by simpa using h) (by simpa using hx)
  rw[List.idxOf_cons]
  cases (a==x)<;>simp<;>omega
theorem AM6{l:List A1}{x:A1}{k:Int}(h0:0<=k)(h1:k<len l)(ha: ∀j,0<=j->j<k->A2 l j≠x)(hx:A2 l k=x):FZ l x=k:=by
 have hm:x∈l:=hx▸at_mem h0 h1
 obtain⟨hlt,e⟩:=FG l h0 h1
 unfold FZ
 rw[if_pos hm]
 have hi:l.idxOf x<l.length:=List.idxOf_lt_length_iff.2 hm
 have hle:l.idxOf x<=k.toNat:=nJ hlt (by rw[<-e];exact hx)
 have hge: ¬l.idxOf x<k.toNat:=λ h=>by
  obtain⟨h2,e2⟩:=FG l (i:=(l.idxOf x:Int)) (by omega) (by unfold len;omega)
  refine ha (l.idxOf x) (by omega) (by omega) ?_
  rw[e2];simp
 omega
theorem AM7{l:List A1}{x:A1}(ha: ∀j,0<=j->j<len l->A2 l j≠x):FZ l x= -1:=by
 unfold FZ
 rw[if_neg λ hm=>?_]
 obtain⟨i,h0,h1,e⟩:=vE hm
 exact ha i h0 h1 e
theorem nK{w:World}{M:Mem}(v:Value)(l:List A1)(x:A1)(hM:Sat w M)(hl:Sl M 1 l.length v (l.flatMap B9))(hb:len l<=1099511627776):
    Calls Tryz.prog 226 [v,str x].toArray w λ e w'=>e= .returned (i64 (FZ l x))/\Ext w w':=by
 have hln:=AA l
 refine B8 (Hr:=[]) B3 Tryz.func226 U Tryz.ntmps226 [(0,kn v 1 l B9)] [] [.sl 0 v,.v (str x)] U (St.start hM) (fc 0 hl DO AF) (λ B hB=>?_) U
 refine DI (σ:=Int) (λ k=>⟨[(0,kn v 1 l B9)],[],[Z 0 (.sl 0 v),Z 1 (.v (str x)),Z 7 (I (len l)),Z 8 (I k)]⟩) (λ k=>0<=k/\k<=len l/\ ∀j,0<=j->j<k->A2 l j≠x) (λ k=>(len l-k).toNat) 0 U (A0 U) (by omega) U ⟨by omega,hln,λ j h0 h1=>by omega⟩ ?_
 rintro k ⟨h0,h1,ha⟩
 refine AE U (A0 U) (by omega) (λ hb1=>?_) (λ hb1=>?_)<;>simp only[zb]at hb1
 ·refine AE U (A0 U) (by omega) (λ hb2=>?_) (λ hb2=>?_)<;>simp only[zb]at hb2
  ·exact AD hB U U (A0 U) (by omega) U (A0 U) λ w M hX=>⟨by rw[AM6 h0 hb1 ha hb2.symm];rfl,hX.st.low⟩
  ·exact CS (k+1) U (A0 U) (by omega) U ⟨by omega,by omega,λ j q0 q1=>by
    by_cases hj:j=k
    ·subst hj;exact λ q=>hb2 q.symm
    ·exact ha j q0 (by omega)⟩ (by show Int.toNat _<Int.toNat _;omega)
 ·exact AD hB U U (A0 U) (by omega) U (A0 U) λ w M hX=>⟨by rw[AM7 (λ j q0 q1=>ha j q0 (by omega))];rfl,hX.st.low⟩
theorem AM8{w0 wv:World}{M0 M:Mem}{Rs:List HO}{b:Nat}{v:Value}{l:List Tk}{i d:Int}(h:HA w0 wv M0 M Rs b v l i d):
    Calls Tryz.prog 298 [.pointer (some ⟨b,0,none⟩)].toArray wv (KO w0 M0 M Rs 56 (GY l i) λ c _=>DQ w0 M0 M Rs (λ _:Unit=>.agg c.cells.toArray) (λ _=>True) (λ _=>[]) λ _=>[CQ b v i d]):=by
 obtain⟨hS,hl,hg,ok,h0,h1⟩:=h
 have hfew:=ok.E9
 refine B8 (Hr:=Rs) B3 Tryz.func298 U Tryz.ntmps298 [(0,kn v 9 l Tk.cells)] [(0,AW b v i d)] [.bx 0 b 0] U hS (fc 0 hl (λ _=>rfl) AF) (λ B hB=>?_) U
 refine CY 2 U (A0 U) (by omega) Tryz.zeroValue46 U λ b2=>?_
 refine DY [0] (FO (A2 l i)) U (A0 U) (by omega) Tryz.call25 U U (A0 U) U (λ _ w M hS hF=>G9 hS (hF.get (k:=0) U).sl h0 h1) U ?_
 refine CY 1 U (A0 U) (by omega) Tryz.zeroValue63 U λ b1=>?_
 refine D2 3 [LG,LF,LD] B9 1 9 DO U (A0 U) (by omega) U (A0 U) (λ w=>by kernel_rfl) U λ v3=>?_
 refine B7 U (A0 U) (by omega) Tryz.call226 U U (A0 U) (λ _ w M hX=>nK v3 [LG,LF,LD] (A2 l i).s hX.st.sat (hX.sl 3 U) (by decide)) U ?_
 refine AE U (A0 U) (by omega) (λ hb1=>?_) (λ hb1=>?_)<;>simp only[zb]at hb1
 ·have e:GY l i= .ok (A2 l i).c (i+1):=by unfold GY;rw[if_pos hb1]
  rw[e]at hB
  exact AD hB U U (A0 U) (by omega) U (A0 U) λ w M' hX=>⟨(),M',rfl,trivial,hX.le,hX.CR [0] U,AF⟩
 refine AE U (A0 U) (by omega) (λ hb2=>?_) (λ hb2=>?_)<;>simp only[zb]at hb2
 ·have e:GY l i= .ok ⟨4,0,[],(A2 l i).s,false,0⟩ (i+1):=by unfold GY;rw[if_neg hb1,if_pos hb2]
  rw[e]at hB
  exact AD hB U U (A0 U) (by omega) U (A0 U) λ w M' hX=>⟨(),M',rfl,trivial,hX.le,hX.CR [0] U,AF⟩
 have hidx: -1<=FZ [LG,LF,LD] (A2 l i).s:=by unfold FZ;split<;>omega
 refine AE U (A0 U) (by simp only[zb]<;>omega) (λ hb3=>?_) (λ hb3=>?_)<;>simp only[zb]at hb3
 ·have e:GY l i= .er 1 (A2 l i).pos:=by
   unfold GY CG
   rw[if_neg hb1,if_neg hb2,if_neg]
   rintro⟨q1,q2⟩
   rcases hb3 with q|q
   · exact q q1
   · unfold FZ at q;rw[if_pos q2]at q;omega
  rw[e]at hB
  exact BK [0] U (A0 U) (by omega) U Tryz.call26 U (A0 U) U (λ w M hS hF=>JW 1 hS (hF.get (k:=0) U).sl h0 h1) λ a w M hs hS hle=>BC _ (hB.p ⟨M,rfl,hS.drop _ mF,hle⟩ a hs)
 ·have hm:(A2 l i).s∈[LG,LF,LD]:=Decidable.byContradiction λ q=>by
   have q2:=hb3.2
   unfold FZ at q2;rw[if_neg q]at q2;omega
  have e:GY l i= .ok ⟨FZ [LG,LF,LD] (A2 l i).s,0,[],[],false,0⟩ (i+1):=by
   unfold GY FZ
   rw[if_neg hb1,if_neg hb2,if_pos ⟨hb3.1,hm⟩,if_pos hm]
  rw[e]at hB
  exact AD hB U U (A0 U) (by omega) U (A0 U) λ w M' hX=>⟨(),M',rfl,trivial,hX.le,hX.CR [0] U,AF⟩
theorem nL{w0 wv:World}{M0 M:Mem}{Rs:List HO}{b:Nat}{v:Value}{l:List Tk}{i d:Int}{r:PR Nd}(e:GY l i=r)(h:HA w0 wv M0 M Rs b v l i d):
 Calls Tryz.prog 298 [.pointer (some ⟨b,0,none⟩)].toArray wv (KO w0 M0 M Rs 56 r λ c _=>DQ w0 M0 M Rs (λ _:Unit=>.agg c.cells.toArray) (λ _=>True) (λ _=>[]) λ _=>[CQ b v i d]):=by subst e;exact AM8 h
abbrev AM9(v:Value)(xs:List Sp):HO:=.own 68 3 v xs.length (xs.flatMap Sp.cells)
theorem AN0{w0 wv:World}{M0 M:Mem}{Rs:List HO}{b:Nat}{v:Value}{l:List Tk}{i d:Int}(h:HA w0 wv M0 M Rs b v l i d):
    Calls Tryz.prog 162 [.pointer (some ⟨b,0,none⟩)].toArray wv (WZ w0 M0 M Rs b v d (G5 A9 l i) λ s=>str s):=by
 obtain⟨hS,hl,hg,ok,h0,h1⟩:=h
 have hfew:=ok.E9
 refine B8 (Hr:=Rs) B3 Tryz.func162 U Tryz.ntmps162 [(0,kn v 9 l Tk.cells)] [(0,AW b v i d)] [.bx 0 b 0] U hS (fc 0 hl (λ _=>rfl) AF) (λ B hB=>?_) U
 refine DY [0] (.v (.bool (AL l i [46]))) U (A0 U) (by omega) Tryz.call50 U U (A0 U) U (λ _ w M hS hF=>HT [46] hS (hF.get (k:=0) U).sl h0 h1) U ?_
 refine G8 0 (λ s=> ∃(dot:Bool) (i0:Int),i<=i0/\i0<len l/\G5 A9 l i=((GX dot l.length l [] i0).bind λ xs j=>.ok (JJ A9 xs) j)/\s=⟨[(0,kn v 9 l Tk.cells)],[(0,AW b v i0 d)],[Z 0 (.bx 0 b 0),Z 3 (.v (.slice none 0 0)),Z 4 (.v (.bool dot))]⟩) U (A0 U) (by simp only[zb]<;>omega) U (λ hb1=>?_) (λ hb1=>?_) ?_
 ·exact BO _ U (A0 U) (by omega) U ⟨AL l i [46],i+1,by omega,GO ok h0 h1 hb1,by unfold G5;rw[if_pos hb1,hb1],rfl⟩
 ·refine DY [0] (FO (A2 l i)) U (A0 U) (by omega) Tryz.call25 U U (A0 U) U (λ _ w M hS hF=>G9 hS (hF.get (k:=0) U).sl h0 h1) U ?_
  refine AE U (A0 U) (by omega) (λ hb2=>?_) (λ hb2=>?_)<;>simp only[zb]at hb2
  ·have e:G5 A9 l i= .er 1 (A2 l i).pos:=by unfold G5 CG;rw[if_neg (by rw[hb1];decide),if_pos hb2]
   rw[e]at hB
   exact BK [0] U (A0 U) (by omega) U Tryz.call26 U (A0 U) U (λ w M hS hF=>JW 1 hS (hF.get (k:=0) U).sl h0 h1) λ a w M hs hS hle=>BC _ (hB.p ⟨M,rfl,hS,hle⟩ a hs)
  ·exact BO _ U (A0 U) (by omega) U ⟨AL l i [46],i,by omega,h1,by unfold G5;rw[if_neg (by rw[hb1];decide),if_neg (by omega),hb1],rfl⟩
 rintro s ⟨dot,i0,hi0,hi1,e0,rfl⟩
 rw[e0]at hB
 generalize hR:GX dot l.length l [] i0=R at hB
 refine ZB 1 3 68 3 Sp.cells Sp.BI U ?_
 refine DI (σ:=Int×Value×List Sp×Nat) (λ(j,u,xs,f)=>⟨[(0,kn v 9 l Tk.cells),(1,kn u 3 xs Sp.cells)],[(0,AW b v j d),(1,.ho (AM9 u xs))],[Z 0 (.bx 0 b 0),Z 3 (.sl 1 u),Z 4 (.v (.bool dot))]⟩)
   (λ(j,u,xs,f)=>0<=j/\j<len l/\O5 xs/\len l<=j+f/\GX dot f l xs j=R) (λ(j,u,xs,f)=>(len l-j).toNat) (i0,.slice none 0 0,[],l.length) U (A0 U) (by omega) U ⟨by omega,hi1,.nil,by unfold len at*;omega,hR⟩ ?_
 rintro⟨j,u,xs,f⟩ ⟨hj0,hj1,hxs,hf,hst⟩
 have hx0:=AA xs
 have hx20:=hxs.1
 refine DY [0] (.v (.bool (AL l j [91]))) U (A0 U) (by omega) Tryz.call50 U U (A0 U) U (λ _ w M hS hF=>HT [91] hS (hF.get (k:=0) U).sl hj0 hj1) U ?_
 refine DY [0] (FO (A2 l j)) U (A0 U) (by simp only[zb]<;>omega) Tryz.call25 U U (A0 U) U (λ _ w M hS hF=>G9 hS (hF.get (k:=0) U).sl hj0 hj1) U ?_
 cases f with
 |zero=>exfalso;omega
 |succ f=>
 unfold GX at hst
 refine AE U (A0 U) (by simp only[zb]<;>omega) (λ hb1=>?_) (λ hb1=>?_)<;>simp only[zb]at hb1
 ·have hc:AL l j [91]=true\/(A2 l j).kind=3/\(dot=false\/xs≠[]):=hb1.imp id λ⟨q1,q2⟩=>⟨q1,q2.imp id λ q3 q4=>by rw[q4]at q3;cases q3⟩
  have hj2:j+1<len l:=hc.elim (GO ok hj0 hj1) λ q=>IF ok hj0 hj1 q.1 (by decide)
  rw[if_pos hc]at hst
  refine AE U (A0 U) (by omega) (λ hb2=>?_) (λ hb2=>?_)<;>simp only[zb]at hb2
  ·rw[if_pos hb2]at hst
   rw[<-hst]at hB
   exact BK [0] U (A0 U) (by omega) U Tryz.call26 U (A0 U) U (λ w M hS hF=>JW 1 hS (hF.get (k:=0) U).sl hj0 hj1) λ a w M hs hS hle=>BC _ (hB.p ⟨M,rfl,hS.drop _ (List.sublist_cons_self _ _),hle⟩ a hs)
  rw[if_neg hb2]at hst
  refine DY [0] (FO (A2 l j)) U (A0 U) (by omega) Tryz.call25 U U (A0 U) U (λ _ w M hS hF=>G9 hS (hF.get (k:=0) U).sl hj0 hj1) U ?_
  refine CY 5 U (A0 U) (by omega) Tryz.zeroValue68 U λ b5=>?_
  have ej:j+1-1=j:=by omega
  refine SN U (A0 U) (by simp only[zb]<;>omega) IA (by decide+kernel) (SP U (A0 U) (by simp only[zb]<;>omega) ?_)
  refine AE U (A0 U) (by omega) (λ hb3=>?_) (λ hb3=>?_)<;>simp only[zb]at hb3<;>rw[ej]at hb3
  ·rw[if_pos hb3]at hst
   cases hw:FL l (j+1)with
   |er ec p=>
    rw[hw]at hst
    rw[<-hst]at hB
    exact BK [0] U (A0 U) (by omega) U Tryz.call127 U (A0 U) U (λ w M hS hF=>X1 hw ⟨hS,(hF.get (k:=0) U).sl,hg,ok,by omega,hj2⟩) λ a w M hs hS hle=>BC _ (hB.p ⟨M,rfl,hS.drop _ QY,hle⟩ a hs)
   |ok n j'=>
    obtain⟨rfl,hj3,hn6,hk5⟩:=T4 ok (by omega) hj2 hw
    have hn0:=yM ok (by omega) hj2 hw
    rw[hw]at hst
    refine AU [0] (λ _:Unit=>I n) [] (λ _=>[(0,AW b v (j+1+1) d)]) U (A0 U) (by omega) U Tryz.call127 U U (A0 U) U (λ w M hS hF=>X1 hw ⟨hS,(hF.get (k:=0) U).sl,hg,ok,by omega,hj2⟩) (λ _=>rfl) (λ _=>rfl) λ _ _=>?_
    simp only[PR.bind]at hst
    cases hn:BV l (j+1+1) [93]with
    |er ec p=>
     rw[hn]at hst
     rw[<-hst]at hB
     exact BK [0] U (A0 U) (by omega) U Tryz.call128 U (A0 U) U (λ w M hS hF=>IB _ hn hS (hF.get (k:=0) U).sl (by omega) hj3 (by omega)) λ a w M hs hS hle=>BC _ (hB.p ⟨M,rfl,hS.drop _ QY,hle⟩ a hs)
    |ok un k'=>
     obtain⟨rfl,hj4,_⟩:=GB ok (by omega) hj3 hn
     rw[hn]at hst
     refine AU [0] (λ _:Unit=>.tu []) [] (λ _=>[(0,AW b v (j+1+1+1) d)]) U (A0 U) (by omega) U Tryz.call128 U U (A0 U) U (λ w M hS hF=>IB _ hn hS (hF.get (k:=0) U).sl (by omega) hj3 (by omega)) (λ _=>rfl) (λ _=>rfl) λ _ _=>?_
     refine D2 6 [(⟨true,[],n⟩:Sp)] Sp.cells 3 68 Sp.BI U (A0 U) (by omega) U (A0 U) (λ w=>by kernel_rfl) U λ v6=>?_
     refine KN 32 U (A0 U) (by omega) U (A0 U) U Tryz.underlying70 Tryz.type68 U U Sp.cells_one (by simp only[A7,len_nil];omega) λ v'=>?_
     exact CS (j+1+1+1,v',xs++[⟨true,[],n⟩],f) U (A0 U) (by omega) U ⟨by omega,hj4,⟨by rw[A5];show len xs+1<=20;omega,λ s hs=>by
      rcases List.mem_append.1 hs with hs|hs
      · exact hxs.2 s hs
      · rw[List.mem_singleton]at hs;subst hs;exact⟨(by show len ([]:A1)<=1048576;decide),λ _=>⟨hn0,hn6⟩⟩⟩,by omega,hst⟩ (by show Int.toNat _<Int.toNat _;omega)
  ·rw[if_neg hb3]at hst
   refine D2 6 [(⟨false,(A2 l j).s,0⟩:Sp)] Sp.cells 3 68 Sp.BI U (A0 U) (by omega) U (A0 U) (λ w=>by kernel_rfl) U λ v6=>?_
   refine KN 32 U (A0 U) (by omega) U (A0 U) U Tryz.underlying70 Tryz.type68 U U Sp.cells_one (by simp only[A7,len_nil];omega) λ v'=>?_
   exact CS (j+1,v',xs++[⟨false,(A2 l j).s,0⟩],f) U (A0 U) (by omega) U ⟨by omega,hj2,⟨by rw[A5];show len xs+1<=20;omega,λ s hs=>by
    rcases List.mem_append.1 hs with hs|hs
    · exact hxs.2 s hs
    · rw[List.mem_singleton]at hs;subst hs;exact⟨ok.bd _ (at_mem hj0 hj1),λ q=>by cases q⟩⟩,by omega,hst⟩ (by show Int.toNat _<Int.toNat _;omega)
 ·rw[if_neg (λ q=>?_)]at hst
  ·rw[<-hst]at hB
   refine B7 U (A0 U) (by omega) Tryz.call175 U U (A0 U) (λ _ w M hX=>yX u xs hX.st.sat (hg.low hX.st.low) (hX.sl 1 U) hxs) U ?_
   exact AD hB U U (A0 U) (by omega) U (A0 U) λ w M' hX=>⟨(),M',rfl,trivial,hX.le,hX.CR [0] U,AF⟩
  ·rcases q with q|⟨q1,q2⟩
   · rw[q]at hb1;cases hb1.1
   · rcases hb1.2 with r|r
     · exact r q1
     · rcases q2 with q2|q2
       · rw[q2]at r;cases r.1
       · have:=HC q2;omega
theorem X3{w0 wv:World}{M0 M:Mem}{Rs:List HO}{b:Nat}{v:Value}{l:List Tk}{i d:Int}{r:PR A1}(e:G5 A9 l i=r)(h:HA w0 wv M0 M Rs b v l i d):
 Calls Tryz.prog 162 [.pointer (some ⟨b,0,none⟩)].toArray wv (WZ w0 M0 M Rs b v d r λ s=>str s):=by subst e;exact AN0 h
theorem AN1{w0 wv:World}{M0 M:Mem}{Rs:List HO}{b:Nat}{v:Value}{l:List Tk}{i d:Int}(h:HA w0 wv M0 M Rs b v l i d):
    Calls Tryz.prog 276 [.pointer (some ⟨b,0,none⟩)].toArray wv (HW w0 M0 M Rs b v d (MO A9 l i)):=by
 have hh:=h
 obtain⟨hS,hl,hg,ok,h0,h1⟩:=h
 have hfew:=ok.E9
 refine B8 (Hr:=Rs) B3 Tryz.func276 U Tryz.ntmps276 [(0,kn v 9 l Tk.cells)] [(0,AW b v i d)] [.bx 0 b 0] U hS (fc 0 hl (λ _=>rfl) AF) (λ B hB=>?_) U
 unfold MO at hB
 cases hp:G5 A9 l i with
 |er ec p=>
  rw[hp]at hB
  exact BK [0] U (A0 U) (by omega) U Tryz.call162 U (A0 U) U (λ w M hS hF=>X3 hp ⟨hS,(hF.get (k:=0) U).sl,hg,ok,h0,h1⟩) λ a w M hs hS hle=>BC _ (hB.p ⟨M,rfl,hS,hle⟩ a hs)
 |ok s j=>
  obtain⟨hij,hj1⟩:=W6 ok h0 h1 hp
  rw[hp]at hB
  simp only[PR.bind]at hB
  refine AU [0] (λ _:Unit=>.v (str s)) [] (λ _=>[(0,AW b v j d)]) U (A0 U) (by omega) U Tryz.call162 U U (A0 U) U (λ w M hS hF=>X3 hp ⟨hS,(hF.get (k:=0) U).sl,hg,ok,h0,h1⟩) (λ _=>rfl) (λ _=>rfl) λ _ _=>?_
  refine D2 3 CH B9 1 9 DO U (A0 U) (by omega) U (A0 U) (λ w=>by kernel_rfl) U λ v3=>?_
  refine DY [0] (FO (A2 l j)) U (A0 U) (by omega) Tryz.call25 U U (A0 U) U (λ _ w M hS hF=>G9 hS (hF.get (k:=0) U).sl (by omega) hj1) U ?_
  refine B7 U (A0 U) (by omega) Tryz.call226 U U (A0 U) (λ _ w M hX=>nK v3 CH (A2 l j).s hX.st.sat (hX.sl 3 U) (by decide)) U ?_
  refine DY [0] (FO (A2 l j)) U (A0 U) (by omega) Tryz.call25 U U (A0 U) U (λ _ w M hS hF=>G9 hS (hF.get (k:=0) U).sl (by omega) hj1) U ?_
  have hidx: -1<=FZ CH (A2 l j).s:=by unfold FZ;split<;>omega
  refine AE U (A0 U) (by simp only[zb]<;>omega) (λ hb1=>?_) (λ hb1=>?_)<;>simp only[zb]at hb1
  ·rw[if_neg]at hB
   ·exact BK [0] U (A0 U) (by omega) U Tryz.call26 U (A0 U) U (λ w M hS hF=>JW 1 hS (hF.get (k:=0) U).sl (by omega) hj1) λ a w M hs hS hle=>BC _ (hB.p ⟨M,rfl,hS.drop _ (List.sublist_cons_self _ _),hle⟩ a hs)
   ·rintro⟨q1,q2⟩
    rcases hb1 with q|q
    ·exact q q1
    ·unfold FZ at q;rw[if_pos q2]at q;omega
  ·have hm:(A2 l j).s∈CH:=Decidable.byContradiction λ q=>by
    have q2:=hb1.2
    unfold FZ at q2;rw[if_neg q]at q2;omega
   have hix:FZ CH (A2 l j).s=(CH.idxOf (A2 l j).s:Nat):=by unfold FZ;rw[if_pos hm]
   have hj2:=IF ok (by omega) hj1 hb1.1 (by decide)
   rw[if_pos ⟨hb1.1,hm⟩,<-hix]at hB
   cases hli:GY l (j+1)with
   |er ec p=>
    rw[hli]at hB
    exact BK [0] U (A0 U) (by simp only[zb]<;>omega) U Tryz.call298 U (A0 U) U (λ w M hS hF=>nL hli ⟨hS,(hF.get (k:=0) U).sl,hg,ok,by omega,hj2⟩) λ a w M hs hS hle=>BC _ (hB.p ⟨M,rfl,hS.drop _ (List.sublist_cons_self _ _),hle⟩ a hs)
   |ok c k=>
    obtain⟨rfl,hj3⟩:=kB ok (by omega) hj2 hli
    rw[hli]at hB
    refine AU [0] (λ _:Unit=>.ag (MQ c.cells)) [] (λ _=>[(0,AW b v (j+1) d)]) U (A0 U) (by simp only[zb]<;>omega) U Tryz.call298 U U (A0 U) U (λ w M hS hF=>nL hli ⟨hS,(hF.get (k:=0) U).sl,hg,ok,by omega,hj2⟩) (λ _=>rfl) (λ _=>rfl) λ _ _=>?_
    refine CY 5 U (A0 U) (by omega) Tryz.zeroValue46 U λ b5=>?_
    refine AU [] (λ h:AJ=>.sl 4 h.v) [] (λ h=>[(4,B6 h.v (Tf.mk ⟨16,0,[],s,FZ CH (A2 l j).s,c⟩ []).flat)]) U (A0 U) (by simp only[zb]<;>omega) U Tryz.call122 U U (A0 U) U (λ w M hS hF=>ME ⟨16,0,[],s,FZ CH (A2 l j).s,c⟩ hS) (λ _=>rfl) (λ _=>rfl) λ h4 _=>?_
    exact AD hB U U (A0 U) (by omega) U (A0 U) λ w M' hX=>⟨h4,M',rfl,trivial,hX.le,hX.CR [0,4] U,AF⟩
end Go.Proofs.YtmjpjbmeamnfpaaGreatDoor
namespace Go.Eng
open Go.RowKit
structure SV where
 key:A1
 val:Value
 born:Nat
def SV.DT (p:SV):MapEntry:= { key:=str p.key,val:=p.val,born:=p.born}
def CV(l:List SV)(clock:Nat):Obj:=.map ⟨l.map SV.DT⟩ clock
def EG:List SV->A1->Option Value
 |[],_=>none
 |p::l,x=>if x==p.key then some p.val else EG l x
def HB:List SV->A1->Value->Option (List SV)
 |[],_,_=>none
 |p::l,x,v=>if x==p.key then some (⟨x,v,p.born⟩::l)else(HB l x v).map (p:: ·)
def sset(l:List SV)(c:Nat)(x:A1)(v:Value):List SV:=match HB l x v with|some l'=>l'|none=>l++[⟨x,v,c⟩]
def P7(l:List SV)(c:Nat)(x:A1)(v:Value):Nat:=match HB l x v with|some _=>c|none=>c+1
def K6:List SV->A1->Nat->Option (Nat×Value)
 |[],_,_=>none
 |p::l,x,i=>if x==p.key then some (i,p.val)else K6 l x (i+1)
theorem nN(x y:A1):((⟨⟨x⟩⟩:ByteArray)==⟨⟨y⟩⟩)=(x==y):=by
 show((⟨x⟩:Array UInt8)==⟨y⟩)=(x==y)
 simp
theorem nO(x:A1): ∀(l:List SV) (i:Nat),Instr.findNow .string (str x) (l.map SV.DT) i=some (K6 l x i)
 |[],_=>rfl
 |p::l,i=>by
  simp only[List.map_cons,Instr.findNow,SV.DT,Instr.sameNow,K6,nN]
  by_cases h:(x==p.key)=true
  ·rw[h];rfl
  ·rw[Bool.not_eq_true]at h;rw[h];exact nO x l (i+1)
theorem nP(x:A1): ∀(l:List SV) (i:Nat),(K6 l x i).map (·.2)=EG l x
 |[],_=>rfl
 |p::l,i=>by
  simp only[K6,EG];split
  ·rfl
  ·exact nP x l (i+1)
theorem nQ(x:A1)(v:Value): ∀(l:List SV) (i:Nat),(K6 l x i=none/\HB l x v=none)\/ ∃j u p l',K6 l x i=some (i+j,u)/\l[j]? =some p/\x=p.key/\HB l x v=some l'/\l'=l.modify j (λ p=>⟨x,v,p.born⟩)
 |[],_=>.inl ⟨rfl,rfl⟩
 |p::l,i=>by
  by_cases h:(x==p.key)=true
  ·refine .inr ⟨0,p.val,p,⟨x,v,p.born⟩::l,?_,rfl,by simpa using h,?_,by simp⟩
   ·simp only[K6,h,if_true];rfl
   ·simp only[HB,h,if_true]
  ·rcases nQ x v l (i+1)with⟨h1,h2⟩|⟨j,u,q,l',h1,h2,h3,h4,h5⟩
   ·refine .inl ⟨?_,?_⟩
    ·simp only[K6,h];exact h1
    ·simp only[HB,h,h2];rfl
   ·refine .inr ⟨j+1,u,q,p::l',?_,by simpa using h2,h3,?_,?_⟩
    ·simp only[K6,h];rw[show i+(j+1)=i+1+j from by omega];exact h1
    ·simp only[HB,h,h4];rfl
    ·subst h5;simp
theorem nR{P:Program}{t:TypeId}(h:P.underlying t=some .string)(b:Bool)(x:A1)(w:World):(Instr.checkKey b 10000 t (str x)).run P w= .ok () w:=by
 show(Instr.checkKey b (9999+1) t (str x)).run P w= .ok () w
 unfold Instr.checkKey
 rw[Sem.run_bind,run_underlying h];rfl
theorem nS{P:Program}{t:TypeId}(h:P.underlying t=some .string)(x:A1)(l:List SV)(w:World):(Instr.findKey t (str x) (l.map SV.DT)).run P w= .ok (K6 l x 0) w:=by
 simp only[Instr.findKey,Sem.run_bind,run_underlying h,Result.andThen_ok,nO];rfl
theorem nT{P:Program}{w:World}{b:Nat}{l:List SV}{c:Nat}(h:w.heap[b]? =some (CV l c)):(getObj b).run P w= .ok (CV l c) w:=by
 simp[getObj,Sem.run,h,CV]
theorem nU{P:Program}{w:World}{b:Nat}{l:List SV}{c:Nat}(h:w.heap[b]? =some (CV l c))(o':Obj):(setObj b o').run P w= .ok () (FP w b o'):=by
 simp[setObj,Sem.run,h,FP,CV]
theorem nV{P:Program}{w:World}{b:Nat}{l:List SV}{c:Nat}{t kt e:TypeId}{z:Value}{x:A1}{ok:Bool}(ht:P.underlying t=some (.map kt e))(hk:P.underlying kt=some .string)(hz: ∀w,(zeroValue e).run P w= .ok z w)
  (h:w.heap[b]? =some (CV l c)):(Instr.lookup t (.map (some b)) (str x) ok).run P w= .ok (if ok then .tuple #[(EG l x).getD z,.bool (EG l x).isSome]else(EG l x).getD z) w:=by
 simp only[Instr.lookup,Sem.run_bind,run_underlying ht,Result.andThen_ok,nT h,CV,Sem.run_pure,nR hk,nS hk]
 have hg:=nP x l 0
 cases hf:K6 l x 0 with
 |none=>rw[hf]at hg;rw[<-hg];simp[Sem.run_bind,hz]
 |some q=>rw[hf]at hg;rw[<-hg];simp
theorem AN2{P:Program}{w:World}(x:A1):(Instr.keyThatStays (str x) (str x)).run P w= .ok (str x) w:=by
 unfold Instr.keyThatStays
 rw[show Instr.sameBits 10000 (str x) (str x)=true from by simp[Instr.sameBits,nN]];rfl
theorem AN3{P:Program}{w:World}{b:Nat}{l:List SV}{c:Nat}{t kt e:TypeId}{x:A1}{v:Value}(ht:P.underlying t=some (.map kt e))(hk:P.underlying kt=some .string)
  (h:w.heap[b]? =some (CV l c)):(Instr.mapUpdate t (.map (some b)) (str x) v).run P w= .ok () (FP w b (CV (sset l c x v) (P7 l c x v))):=by
 simp only[Instr.mapUpdate,Sem.run_bind,run_underlying ht,Result.andThen_ok,nT h,CV,nR hk,nS hk]
 rcases nQ x v l 0 with⟨h1,h2⟩|⟨j,u,p,l',h1,h2,h3,h4,h5⟩
 ·rw[h1]
  simp only[sset,P7,h2]
  rw[nU h];simp[SV.DT]
 ·rw[h1]
  have e1:((l.map SV.DT).toArray[0+j]?)=some (SV.DT p):=by simp[h2]
  have e2:(Array.mk (l.map SV.DT))[0+j]? =some (SV.DT p):=e1
  simp only[Sem.run_bind,e2,Option.map_some,Option.getD_some]
  rw[show(SV.DT p).key=str x from by rw[h3];rfl,AN2]
  simp only[Result.andThen_ok,sset,P7,h4]
  rw[nU h]
  congr 3
  subst h5
  rw[Nat.zero_add]
  apply Array.ext'
  rw[Array.toList_modify]
  exact XX SV.DT _ _ (λ x=>rfl) l j
section rl
variable {P:Program} {ops:Array Oper} {Q:Exit->Act->World->Prop} {N:Nat} {rest:List Oper} {L:Env} {w0 w:World} {M0 M:Mem} {Hs:List HO} {d:Nat} {ty:TypeId} {ps:String} {af:Array Edge}
theorem RL.AN4 {t:TypeId}(hS:St w0 M0 w M Hs)(hd:Nat.blt d N=true)
  (h: ∀w' b,St w0 M0 w' M (.raw b (CV [] 0)::Hs)->RL P ops Q N rest ((d,true,.map (some b))::L) w'):RL P ops Q N (⟨some d,.makeMap t none,ty,ps,af,none⟩::rest) L w:=by
 intro a hs
 refine wpList_plain U λ K hK=>?_
 have key:(execOp a.eval ⟨some d,.makeMap t none,ty,ps,af,none⟩).run P w= .ok (.value (.map (some w.heap.size))) (w.alloc (.map #[] 0)):=rfl
 simp only[Oper.wp,key,Oper.upon_value]
 exact hK _ _ (h _ _ (hS.PF (CV [] 0)) _ (hs.put hd true _))
theorem RL.AN5 {t kt e:TypeId}{m x y:Operand}{i b c c':Nat}{l l':List SV}{n:A1}{v:Value}{Hs':List HO}(ins:Bool)(hS:St w0 M0 w M Hs)(hi:Hs[i]? =some (.raw b (CV l c)))(hm:A8 L true m (.map (some b)))(hx:A8 L true x (str n))(hy:A8 L true y v)
  (ht:P.underlying t=some (.map kt e)) (hk:P.underlying kt=some .string) (hl:sset l c n v=l') (hc:P7 l c n v=c') (hHs:Hs.set i (.raw b (CV l' c'))=Hs')
  (h: ∀w',St w0 M0 w' M Hs'->RL P ops Q N rest L w'):RL P ops Q N (⟨none,if ins then .insert t m x y else .mapUpdate t m x y,ty,ps,af,none⟩::rest) L w:=by
 intro a hs
 refine wpList_plain U λ K hK=>?_
 have hb:=(hS.obj hi).2.1
 have key:(execOp a.eval ⟨none,if ins then .insert t m x y else .mapUpdate t m x y,ty,ps,af,none⟩).run P w= .ok .skip (FP w b (CV l' c')):=by
  have:=AN3 (P:=P) (x:=n) (v:=v) ht hk hb
  cases ins<;>simp only[execOp,hm a N hs rfl,hx a N hs rfl,hy a N hs rfl,Bool.false_eq_true,if_true,if_false]<;>rw[Sem.run_bind,this,hl,hc]<;>rfl
 simp only[Oper.wp,key,Oper.upon_skip]
 exact hK _ _ (h _ (hHs▸hS.RC hi _) _ hs)
end rl
section pv
variable {P:Program} {C:World->Prop} {L:Env} {W:Bool} {d:Option Tmp} {ty:TypeId} {ps:String} {af:Array Edge} {gd:Option (Nat×Bool)} {w0 w:World} {M0 M:Mem} {Hs:List HO}
theorem PV.AN6 {t kt e:TypeId}{x y:Operand}{i b c:Nat}{l:List SV}{n:A1}{z v:Value}(hS:St w0 M0 w M Hs)(hC: ∀w',C w'->Ext w w')(hi:Hs[i]? =some (.raw b (CV l c)))(hx:A8 L W x (.map (some b)))(hy:A8 L W y (str n))
  (ht:P.underlying t=some (.map kt e)) (hk:P.underlying kt=some .string) (hz: ∀w,(zeroValue e).run P w= .ok z w) (hv:(EG l n).getD z=v):PV P C L W ⟨d,.lookup t x y false,ty,ps,af,gd⟩ v:=by
 intro a N hs hW w' hw'
 have hb:=((hS.ext (hC w' hw')).obj hi).2.1
 have:=nV (P:=P) (x:=n) (ok:=false) ht hk hz hb
 simp only[execOp,hx a N hs hW,hy a N hs hW];rw[Sem.run_bind,this,<-hv];rfl
theorem PV.AN7 {t kt e:TypeId}{x y:Operand}{i b c:Nat}{l:List SV}{n:A1}{z v:Value}{q:Bool}(hS:St w0 M0 w M Hs)(hC: ∀w',C w'->Ext w w')(hi:Hs[i]? =some (.raw b (CV l c)))(hx:A8 L W x (.map (some b)))(hy:A8 L W y (str n))
  (ht:P.underlying t=some (.map kt e)) (hk:P.underlying kt=some .string) (hz: ∀w,(zeroValue e).run P w= .ok z w) (hv:(EG l n).getD z=v) (hq:(EG l n).isSome=q):PV P C L W ⟨d,.lookup t x y true,ty,ps,af,gd⟩ (.tuple #[v,.bool q]):=by
 intro a N hs hW w' hw'
 have hb:=((hS.ext (hC w' hw')).obj hi).2.1
 have:=nV (P:=P) (x:=n) (ok:=true) ht hk hz hb
 simp only[execOp,hx a N hs hW,hy a N hs hW];rw[Sem.run_bind,this,<-hv,<-hq];rfl
end pv
end Go.Eng
namespace Go.Eng
open Go.RowKit
theorem AN8(n:A1)(v:Value)(c:Nat)(x:A1): ∀l:List SV,EG (sset l c n v) x=if x==n then some v else EG l x:=by
 have put: ∀l l':List SV,HB l n v=some l'->EG l' x=if x==n then some v else EG l x:=by
  intro l
  induction l with
  |nil=>intro l' h;cases h
  |cons p l ih=>
   intro l' h
   unfold HB at h
   split at h
   ·rename_i he
    cases h
    have he':n=p.key:=by simpa using he
    subst he'
    show(if x==p.key then some v else EG l x)=if x==p.key then some v else(if x==p.key then some p.val else EG l x)
    split<;>rfl
   ·rename_i he
    cases hs:HB l n v with
    |none=>rw[hs]at h;cases h
    |some l2=>
     rw[hs]at h
     cases h
     show(if x==p.key then some p.val else EG l2 x)=_
     rw[ih l2 hs]
     show _=if x==n then some v else(if x==p.key then some p.val else EG l x)
     by_cases hx:x=n
     ·subst hx;simp[he]
     ·simp[hx]
 have no: ∀l:List SV,HB l n v=none->EG (l++[⟨n,v,c⟩]) x=if x==n then some v else EG l x:=by
  intro l
  induction l with
  |nil=>intro _;rfl
  |cons p l ih=>
   intro h
   unfold HB at h
   split at h
   ·cases h
   ·rename_i he
    have hs:HB l n v=none:=by cases hs:HB l n v with|none=>rfl|some l2=>rw[hs]at h;cases h
    show(if x==p.key then some p.val else EG (l++[⟨n,v,c⟩]) x)=if x==n then some v else(if x==p.key then some p.val else EG l x)
    rw[ih hs]
    by_cases hx:x=n
    ·subst hx;simp[he]
    ·simp[hx]
 intro l
 unfold sset
 cases hs:HB l n v with
 |none=>exact no l hs
 |some l'=>exact put l l' hs
section
variable {c:Cx} {B:Exit->Act->World->Prop} {k k':List Fr} {m:Md} {s s':XS} {O:Prop} {E:List Ck} {all:Array Oper} {rest:List Oper} {d:Nat} {ty:TypeId} {ps:String} {af:Array Edge}
theorem cU(kk:Nat){t:TypeId}(h:run c.T c.N k m s=⟨k',.ops all (⟨some d,.makeMap t none,ty,ps,af,none⟩::rest),s',O,E⟩)(hE:AG E)(hO:O)(hd:Nat.blt d c.N=true)
  (hn: ∀b,XG c B k' (.ops all rest) ⟨s'.F,(kk,.ho (.raw b (CV [] 0)))::s'.H,(d,.t,.v (.map (some b)))::s'.L⟩):XG c B k m s:=
 HS h hE hO λ w M hX=>RL.AN4 hX.st hd λ w' b hS=>J4 (hn b) ⟨hS,hX.f,hX.le⟩ U
theorem P8(ins:Bool)(kk:Nat){t kt e:TypeId}{x y z:Operand}{b cl:Nat}{l:List SV}{n:A1}{u:XV}{E1 E2 E3:List Ck}(l':List SV)(c':Nat)(h:run c.T c.N k m s=⟨k',.ops all (⟨none,if ins then .insert t x y z else .mapUpdate t x y z,ty,ps,af,none⟩::rest),s',O,E⟩)(hE:AG E)(hO:O)
  (hx:C9 s'.L .t x=some (.v (.map (some b)),E1)) (hy:C9 s'.L .t y=some (.v (str n),E2)) (hz:C9 s'.L .t z=some (u,E3)) (hE1:AG (E1++(E2++E3))) (hk:J3 s'.H kk=some (.ho (.raw b (CV l cl))))
  (ht:c.P.underlying t=some (.map kt e)) (hkt:c.P.underlying kt=some .string) (hl:sset l cl n u.d=l') (hc:P7 l cl n u.d=c')
  (hn:XG c B k' (.ops all rest) ⟨s'.F,ES s'.H kk (.ho (.raw b (CV l' c'))),s'.L⟩):XG c B k m s:=by
 refine HS h hE hO λ w M hX=>?_
 obtain⟨i,hi,hset'⟩:=MS (Hr:=c.Hr) hk
 exact RL.AN5 ins hX.st hi (AT hx hE1.app.1) (AT hy hE1.app.2.app.1) (AT hz hE1.app.2.app.2) ht hkt hl hc (Hs':=HD (ES s'.H kk (.ho (.raw b (CV l' c'))))++c.Hr) (hset' (.ho (.raw b (CV l' c')))).symm λ w' hS=>J4 hn ⟨hS,hX.f,hX.le⟩ U
theorem AN9(kk:Nat){t kt e:TypeId}{x y:Operand}{gd:Option (Nat×Bool)}{W:Gd}{b cl:Nat}{l:List SV}{n:A1}{z v:Value}{E1:List Ck}(h:run c.T c.N k m s=⟨k',.ops all (⟨some d,.lookup t x y false,ty,ps,af,gd⟩::rest),s',O,E⟩)(hE:AG E)(hO:O)(hg:(JS all s'.L gd,Nat.blt d c.N)=(some W,true))
  (hx:KL s'.L W x y=some (.v (.map (some b)),.v (str n),E1)) (hE1:AG E1) (hk:J3 s'.H kk=some (.ho (.raw b (CV l cl))))
  (ht:c.P.underlying t=some (.map kt e)) (hkt:c.P.underlying kt=some .string) (hz: ∀w,(zeroValue e).run c.P w= .ok z w) (hv:(EG l n).getD z=v)
  (hn:XG c B k' (.ops all rest) ⟨s'.F,s'.H,(d,W,.v v)::s'.L⟩):XG c B k m s:=
 CX (.v v) h hE hO hg (λ w M hX=>by
  obtain⟨i,hi,_⟩:=MS (Hr:=c.Hr) hk
  obtain⟨hx1,hx2⟩:=LK hx hE1
  exact .AN6 hX.st AX hi hx1 hx2 ht hkt hz hv) hn
theorem nW(kk:Nat){t kt e:TypeId}{x y:Operand}{gd:Option (Nat×Bool)}{W:Gd}{b cl:Nat}{l:List SV}{n:A1}{z v:Value}{q:Bool}{E1:List Ck}(h:run c.T c.N k m s=⟨k',.ops all (⟨some d,.lookup t x y true,ty,ps,af,gd⟩::rest),s',O,E⟩)(hE:AG E)(hO:O)(hg:(JS all s'.L gd,Nat.blt d c.N)=(some W,true))
  (hx:KL s'.L W x y=some (.v (.map (some b)),.v (str n),E1)) (hE1:AG E1) (hk:J3 s'.H kk=some (.ho (.raw b (CV l cl))))
  (ht:c.P.underlying t=some (.map kt e)) (hkt:c.P.underlying kt=some .string) (hz: ∀w,(zeroValue e).run c.P w= .ok z w) (hv:(EG l n).getD z=v) (hq:(EG l n).isSome=q)
  (hn:XG c B k' (.ops all rest) ⟨s'.F,s'.H,(d,W,.tu [.v v,.v (.bool q)])::s'.L⟩):XG c B k m s:=
 CX (.tu [.v v,.v (.bool q)]) h hE hO hg (λ w M hX=>by
  obtain⟨i,hi,_⟩:=MS (Hr:=c.Hr) hk
  obtain⟨hx1,hx2⟩:=LK hx hE1
  exact .AN7 hX.st AX hi hx1 hx2 ht hkt hz hv hq) hn
end
end Go.Eng
