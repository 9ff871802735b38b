/-
  Parts Kc P1 On Refs, put together and made short by wip/py/merge.py (mini.py).
-/
import Derived.Test.YtmjpjbmeamnfpaaGreatDoorZc12
import Derived.Test.YtmjpjbmeamnfpaaGreatDoorZc13
import Derived.Lib.SliceRun
import Derived.Test.YtmjpjbmeamnfpaaGreatDoorZc4
import Derived.Laws.BitsLemmas
import Derived.Test.YtmjpjbmeamnfpaaGreatDoorZc3
import Derived.Test.YtmjpjbmeamnfpaaGreatDoorProg
import Derived.Test.YtmjpjbmeamnfpaaGreatDoorZc5
import Derived.Tactics
import Derived.Tactics2
import Derived.Defers
import Derived.Laws.Pointers
import Derived.Laws.LoneSync
import Derived.RegionTactic
import Derived.RegionCalls
import Derived.ChangeAlike
import Derived.Test.YtmjpjbmeamnfpaaGreatDoorZc6
import Derived.Test.YtmjpjbmeamnfpaaGreatDoorZc0
set_option linter.unusedVariables false
set_option linter.unusedSimpArgs false
set_option maxRecDepth 100000
namespace Go.Eng
theorem PV.vF {P:Program}{C:World->Prop}{L:Env}{W:Bool}{d:Option Tmp}{ty:TypeId}{ps:String}{af:Array Edge}{gd:Option (Nat×Bool)}{t t' e:TypeId}{x:Operand}{M:Mem}{sz n n' c':Nat}{v:Value}{cs:List Value}(hS:Sl M sz n v cs)(hn:0<n)(hx:A8 L W x v)(ht:P.underlying t=some (.slice e)):
  PV P C L W ⟨d,.binOp .eql t x (.const (.slice none n' c')) t',ty,ps,af,gd⟩ (.bool false):=
 .bin hx .c λ _ w _=>by
  obtain⟨p,cap,rfl,_,_,hp⟩:=hS.val
  obtain⟨b,o,rfl,_⟩:=hp hn
  have:=Lib.run_eql_slice_nil (P:=P) w t e (some ⟨b,o,none⟩) n cap n' c' ht
  simp[go_sem,this,eqGuard]
end Go.Eng
namespace Go.Proofs.YtmjpjbmeamnfpaaGreatDoor
open Go.Eng
theorem Tm.cells_one (x:Tm): ∀u∈x.cells,u.oneCell'=true:=by intro u hu;simp[Tm.cells]at hu;rcases hu with rfl|rfl|rfl|rfl|rfl|rfl|rfl|rfl|rfl|rfl|rfl<;>rfl
abbrev F4(u:Value)(hs:List AJ)(xs:List Fl):Kn:=⟨u,1,hs,BS,λ M=>CM M 11 Tm.cells hs xs,λ _ _ hm h=>CM.mono hm h⟩
abbrev VM(u:Value)(x:Fl):HO:=.priv 51 11 u x.length (x.flatMap Tm.cells)
abbrev B6(u:Value)(x:Fl):HX:=.pv 51 (kn u 11 x Tm.cells) Tm.BI
abbrev BD(u:Value)(x:Fl):Kn:=kn u 11 x Tm.cells
theorem N4{M:Mem}{u:Value}{hs:List AJ}{xs:List Fl}(h:(F4 u hs xs).ok M){k:Int}(h0:0<=k)(h1:k<len hs):(BD (A2 hs k).v (A2 xs k)).ok M:=⟨CM.at h.more h0 h1,Tm.BI,trivial⟩
theorem iQ{M:Mem}{u:Value}{hs:List AJ}{xs:List Fl}(h:(F4 u hs xs).ok M):len hs=len xs:=by have:=CM.len (f:=Tm.cells) h.more;unfold len;omega
abbrev LU(w0:World)(M0 M:Mem)(Rs:List HO)(x:Fl):Ending->World->Prop:=DQ w0 M0 M Rs (λ h:AJ=>h.v) (λ _=>True) (λ _=>[]) λ h=>[VM h.v x]
theorem VN{w0 w:World}{M0 M:Mem}{Rs:List HO}{x:Fl}{e:Ending}(h:DQ w0 M0 M Rs (λ u:Value=>u) (λ _=>True) (λ _=>[]) (λ u=>[VM u x]) e w):LU w0 M0 M Rs x e w:=by
 obtain⟨u,M',h1,h2,h3,h4,h5⟩:=h
 have ht:=h4.told (k:=0) U
 obtain⟨a,c,hv,_⟩:=(ht.sl (i:=0) rfl).val
 exact⟨⟨a,x.length,c⟩,M',by rw[h1,hv],trivial,h3,by rw[hv]at h4;exact h4,AF⟩
theorem ZR{w0 wv:World}{M0 M:Mem}{Rs:List HO}(v:Value)(hs:List AJ)(xs:List Fl)(hS:St w0 M0 wv M Rs)(hu:(F4 v hs xs).ok M)(hb:len xs.flatten<=1099511627776)(hr:len hs<=1099511627776):
  Calls Tryz.prog 131 [v].toArray wv (LU w0 M0 M Rs xs.flatten):=by
 have hlr:=iQ hu
 have hln:=AA hs
 have hfn:=AA xs.flatten
 refine B8 (Hr:=Rs) B3 Tryz.func131 U Tryz.ntmps131 [(0,F4 v hs xs)] [] [.sl 0 v] U hS (CA hu AF) (λ B hB=>?_) U
 refine DI (σ:=Int×Int) (λ(k,t)=>⟨[(0,F4 v hs xs)],[],[Z 0 (.sl 0 v),Z 3 (I t),Z 9 (.sl 0 v),Z 10 (I (len hs)),Z 11 (I k)]⟩) (λ(k,t)=>0<=k/\k<=len hs/\t=len (LR xs k)) (λ(k,t)=>(len hs-k).toNat) (0,0) U (A0 U) (by omega) U ⟨by omega,by omega,rfl⟩ ?_
 rintro⟨k,t⟩ ⟨h0,h1,ht⟩
 have hfl:=ZP xs k
 have hfk:=AA (LR xs k)
 refine AE U (A0 U) (by omega) (λ hb1=>?_) (λ hb1=>?_)<;>simp only[zb]at hb1
 ·have hft:=iN (xs:=xs) h0 (by omega)
  have hf2:=ZP xs (k+1)
  rw[hft,A5]at hf2
  have hak:=AA (A2 xs k)
  refine CI U (A0 U) (by omega) ?_
  refine FM 1 (BD (A2 hs k).v (A2 xs k)) (λ w M hX=>N4 (hX.f.get (k:=0) U) h0 hb1) (NW 16 1 U ?_)
  refine AE U (A0 U) (by omega) (λ hb2=>?_) (λ hb2=>?_)<;>simp only[zb]at hb2
  ·exfalso;omega
  exact CS (k+1,t+len (A2 xs k)) U (A0 U) (by omega) U ⟨by omega,by omega,by rw[hft,A5,ht]⟩ (by show Int.toNat _<Int.toNat _;omega)
 have hke:k=len hs:=by omega
 subst hke
 rw[iO (by omega)]at ht
 subst ht
 refine AU [] (λ u:Value=>.sl 2 u) [] (λ u=>[(2,B6 u [])]) U (A0 U) (by omega) U Tryz.call171 U U (A0 U) U (λ w M hS hF=>(uZ (len xs.flatten) hS hfn hb).mono λ e w' ⟨u,he,hs⟩=>⟨u,M,he,trivial,Mem.le.refl _,hs,AF⟩) (λ _=>rfl) (λ _=>rfl) λ u _=>?_
 refine DI (σ:=Int×Value×Fl) (λ(k,u,y)=>⟨[(0,F4 v hs xs)],[(2,B6 u y)],[Z 6 (.sl 2 u),Z 25 (.sl 0 v),Z 26 (I (len hs)),Z 27 (I k)]⟩) (λ(k,u,y)=>0<=k/\k<=len hs/\y=LR xs k) (λ(k,u,y)=>(len hs-k).toNat) (0,u,[]) U (A0 U) (by omega) U ⟨by omega,by omega,rfl⟩ ?_
 rintro⟨k,u,y⟩ ⟨h0,h1,hy⟩
 refine AE U (A0 U) (by omega) (λ hb1=>?_) (λ hb1=>?_)<;>simp only[zb]at hb1
 ·have hft:=iN (xs:=xs) h0 (by omega)
  have hf2:=ZP xs (k+1)
  rw[hft,A5]at hf2
  refine CI U (A0 U) (by omega) ?_
  refine FM 1 (BD (A2 hs k).v (A2 xs k)) (λ w M hX=>N4 (hX.f.get (k:=0) U) h0 hb1) (NW 32 1 U ?_)
  refine SG 120 U (A0 U) (by omega) U (A0 U) U Tryz.underlying23 Tryz.type51 U U Tm.cells_one (by rw[hy];omega) λ v'=>?_
  exact CS (k+1,v',y++A2 xs k) U (A0 U) (by omega) U ⟨by omega,by omega,by rw[hft,hy]⟩ (by show Int.toNat _<Int.toNat _;omega)
 rw[iO (by omega)]at hy
 subst hy
 exact AD hB U U (A0 U) (by omega) U (A0 U) λ w M' hX=>VN ⟨u,M',rfl,trivial,hX.le,hX.st,AF⟩
theorem vG{w0 wv:World}{M0 M:Mem}{Rs:List HO}(v:Value)(x:Fl)(hS:St w0 M0 wv M Rs)(hx:(BD v x).ok M)(h0:x≠[])(hb:len x<=1099511627776):
  Calls Tryz.prog 221 [v].toArray wv (LU w0 M0 M Rs x):=by
 refine B8 (Hr:=Rs) B3 Tryz.func221 U Tryz.ntmps221 [(0,BD v x)] [] [.sl 0 v] U hS (CA hx AF) (λ B hB=>?_) U
 refine CX (.v (.bool false)) U (A0 U) (by omega) U (λ w M hX=>.vF (hX.sl 0 U) (List.length_pos_iff.2 h0) (AT (v:=.sl 0 v) (E:=[]) U (A0 U)) Tryz.underlying23) ?_
 refine AE U (A0 U) (by omega) (λ hb1=>?_) (λ hb1=>?_)
 ·cases hb1
 refine SF 2 ([]:List Tm) Tm.cells 11 51 Tm.BI U (A0 U) (by omega) U (A0 U) (λ w=>by kernel_rfl) U λ u=>?_
 refine SG 120 U (A0 U) (by omega) U (A0 U) U Tryz.underlying23 Tryz.type51 U U Tm.cells_one (by rw[len_nil];omega) λ v'=>?_
 exact AD hB U U (A0 U) (by omega) U (A0 U) λ w M' hX=>VN ⟨v',M',rfl,trivial,hX.le,hX.st,AF⟩
theorem VO{w0 wv:World}{M0 M:Mem}{Rs:List HO}(t:Tm)(v:Value)(hs:List AJ)(xs:List Fl)(hS:St w0 M0 wv M Rs)(hu:(F4 v hs xs).ok M)(hb:len xs.flatten<=1000000000000)(hr:len hs<=1099511627776):
  Calls Tryz.prog 122 [.agg t.cells.toArray,v].toArray wv (LU w0 M0 M Rs ({ t with many:=len xs}::xs.flatten)):=by
 have hlr:=iQ hu
 have hln:=AA hs
 have e:({ t with many:=len xs}:Tm)= { t with many:=len hs}:=by rw[hlr]
 rw[e]
 refine B8 (Hr:=Rs) B3 Tryz.func122 U Tryz.ntmps122 [(0,F4 v hs xs)] [] [.ag (MQ t.cells),.sl 0 v] U hS (CA hu AF) (λ B hB=>?_) U
 have hfn:=AA xs.flatten
 refine JU 1 U (A0 U) (by omega) U U (A0 U) λ b=>?_
 refine N2 [1,3,4,5] 5 (λ _ _ _ _ _ h=>h) U (A0 U) (by omega) IA (by decide+kernel) ?_
 refine iL 1 3 U (A0 U) (by omega) U U ?_ ?_
 ·refine SF 2 [{ t with many:=len hs}] Tm.cells 11 51 Tm.BI U (A0 U) (by omega) U (A0 U) (λ w=>by kernel_rfl) U λ u=>?_
  refine DB U (A0 U) (by omega) ?_
  refine E8 3 U (A0 U) (by omega) U U ?_
  refine AU [] (λ u:AJ=>.sl 3 u.v) [] (λ u=>[(3,B6 u.v xs.flatten)]) U (A0 U) (by omega) U Tryz.call131 U U (A0 U) U (λ w M hS hF=>ZR v hs xs hS (hF.get (k:=0) U) (by omega) hr) (λ _=>rfl) (λ _=>rfl) λ u' _=>?_
  refine EW 3 U ?_
  refine DB U (A0 U) (by omega) ?_
  refine E8 4 U (A0 U) (by omega) U U ?_
  refine SG 120 U (A0 U) (by omega) U (A0 U) U Tryz.underlying23 Tryz.type51 U U Tm.cells_one (by simp only[A7,len_nil];omega) λ v'=>?_
  refine DB U (A0 U) (by omega) ?_
  refine E8 5 U (A0 U) (by omega) U U ?_
  refine DB U (A0 U) (by omega) ?_
  refine KP U (A0 U) (by omega) U U ?_
  exact AD hB U U (A0 U) (by omega) U (A0 U) λ w M' hX=>VN ⟨v',M',rfl,trivial,hX.le,hX.st.drop _ ((List.sublist_cons_self _ _).cons_cons _),AF⟩
 ·refine AU [] (λ u:AJ=>.sl 3 u.v) [] (λ u=>[(3,B6 u.v xs.flatten)]) U (A0 U) (by omega) U Tryz.call131 U U (A0 U) U (λ w M hS hF=>ZR v hs xs hS (hF.get (k:=0) U) (by omega) hr) (λ _=>rfl) (λ _=>rfl) λ u' _=>?_
  refine EW 3 U ?_
  refine DB U (A0 U) (by omega) ?_
  refine E8 1 U (A0 U) (by omega) U U ?_
  refine SF 2 [{ t with many:=len hs}] Tm.cells 11 51 Tm.BI U (A0 U) (by omega) U (A0 U) (λ w=>by kernel_rfl) U λ u=>?_
  refine DB U (A0 U) (by omega) ?_
  refine E8 4 U (A0 U) (by omega) U U ?_
  refine SG 120 U (A0 U) (by omega) U (A0 U) U Tryz.underlying23 Tryz.type51 U U Tm.cells_one (by simp only[A7,len_nil];omega) λ v'=>?_
  refine DB U (A0 U) (by omega) ?_
  refine E8 5 U (A0 U) (by omega) U U ?_
  refine DB U (A0 U) (by omega) ?_
  refine KP U (A0 U) (by omega) U U ?_
  exact AD hB U U (A0 U) (by omega) U (A0 U) λ w M' hX=>VN ⟨v',M',rfl,trivial,hX.le,hX.st.drop _ ((List.sublist_cons_self _ _).cons_cons _),AF⟩
end Go.Proofs.YtmjpjbmeamnfpaaGreatDoor
set_option maxRecDepth 100000
namespace Go.Proofs.YtmjpjbmeamnfpaaGreatDoor
open Go.Eng
theorem vH(r:Int)(f:Bool)(w:World):
  Calls Tryz.prog 108 [(.int .i32 r),(.bool f)].toArray w λ e w'=>e= .returned (.bool (C0 r f))/\w'=w:=by
 refine CW.BN Tryz.func108 U Tryz.ntmps108 (Nat.le_of_ble_eq_true U) λ Q hE=>?_
 refine CW.weaken [0,1] (L':=[Y 0 (.int .i32 r),Y 1 (.bool f)]) ?_ U
 refine CW.sr (RL.u (.assign .c) U (RL.nil (CW.id (CW.sr ?_))))
 refine RL.m U U (RL.u (.geq (.t U) .c) U (RL.m U U (RL.v (.pos U U) (.move (.t U)) U (RL.v (.pos U U) (.leq (.g U (λ h=>h)) .c) U (RL.u (.and (.t U) (.g U (λ h=>h))) U ?_)))))
 refine RL.m U U (RL.v (.neg U U) (.move (.t U)) U (RL.v (.neg U U) (.geq (.g U (λ h=>h)) .c) U (RL.v (.neg U U) (.move (.g U (λ h=>h))) U (RL.v (.E4 U U) (.move (.t U)) U (RL.v (.E4 U U) (.leq (.g U (λ h=>h)) .c) U ?_)))))
 refine RL.v (.neg U U) (.and (.g U (λ h=>h)) (.g U (λ h=>h))) U (RL.u (.or (.t U) (.g U (λ h=>h))) U (RL.m U U (RL.v (.neg U U) (.move (.t U)) U (RL.v (.neg U U) (.eql (.g U (λ h=>h)) .c) U (RL.u (.or (.t U) (.g U (λ h=>h))) U ?_)))))
 refine RL.a U U (RL.nil (CW.id ?_))
 refine CW.sr (RL.m U U (RL.m U U (RL.v (.neg U U) (.move (.t U)) U (RL.v (.neg U U) (.not (.g U (λ h=>h))) U (RL.v (.neg U U) (.move (.g U (λ h=>h))) U (RL.v (.E4 U U) (.move (.t U)) U (RL.v (.E4 U U) (.geq (.g U (λ h=>h)) .c) U (RL.v (.neg U U) (.and (.g U (λ h=>h)) (.g U (λ h=>h))) U (RL.v (.neg U U) (.move (.g U (λ h=>h))) U (RL.v (.E4 U U) (.move (.t U)) U (RL.v (.E4 U U) (.leq (.g U (λ h=>h)) .c) U (RL.v (.neg U U) (.and (.g U (λ h=>h)) (.g U (λ h=>h))) U (RL.u (.or (.t U) (.g U (λ h=>h))) U (RL.a U U (RL.nil (CW.id ?_))))))))))))))))
 refine CW.ret (hE.r1 U U ?_)
 exact⟨by simp only[C0,EB,BM,Bool.and_assoc],rfl⟩
theorem ZS(s:A1)(w:World)(hb:len s<=9223372036854775807):
  Calls Tryz.prog 76 [(str s)].toArray w λ e w'=>e= .returned (str (AY s))/\Ext w w':=by
 refine CW.BN Tryz.func76 U Tryz.ntmps76 (Nat.le_of_ble_eq_true U) λ Q hE=>?_
 have:=AA s
 have hS:St w nM w nM []:=St.start ⟨λ _ _ _ h=>by cases h⟩
 refine CW.weaken [0] (L':=[Y 0 (str s)]) ?_ U
 refine CW.sr (RL.u (.assign .c) U (RL.nil (CW.id (CW.seq ?_))))
 refine CW.sr (RL.m U U ?_)
 refine RL.U9 (s:=s) hS (.t U) Tryz.underlying9 U (λ w1 b2 hS3=>?_)
 replace hS3:St w nM w1 nM [.raw b2 (.stringIter ⟨⟨s⟩⟩ ((0:Int)).toNat)]:=hS3
 refine RL.nil (CW.id (CW.block ?_))
 refine CW.loop (σ:=Int) (λ p=>[Y 0 (str s),Y 6 (.pointer (some ⟨b2,0,none⟩))]) (λ p wl=>St w nM wl nM [.raw b2 (.stringIter ⟨⟨s⟩⟩ ((p:Int)).toNat)]/\0<=p/\p<=len s/\D6 s p=D6 s 0) (λ p=>(len s-p).toNat) 0 [0,6] U ?_ ?_
 ·refine⟨hS3,?_⟩;exact⟨by omega,by omega,rfl⟩
 ·rintro p wl ⟨hS4,hp0,hp1,hpF⟩
  refine CW.sr ?_
  refine RL.UA (s:=s) (p:=p) hS4 (i:=0) U (.t U) (by omega) U (λ hlt w5 hS6=>?_) (λ hge=>?_)
  ·replace hS6:St w nM w5 nM [.raw b2 (.stringIter ⟨⟨s⟩⟩ ((p+runeLen s p:Int)).toNat)]:=hS6
   refine RL.u (.ex (.t U) U) U (RL.nil (CW.id ?_))
   refine CW.seq (CW.cond rfl (λ _=>?_) (λ h=>by cases h))
   refine CW.skip (CW.id (CW.block (CW.sr (RL.u (.ex (.t U) U) U (RL.u (.ex (.t U) U) U (RL.a U U (RL.a U U (RL.nil (CW.id ?_)))))))))
   refine CW.sr (RL.m U U (RL.m U U (RL.u (.eql (.t U) .c) U ?_)))
   refine RL.DC .none Tryz.call108 (.cons (.t U) (.cons (.t U) .nil)) (λ _=>(vH (AR s p) (p==0) _)) U ?_
   refine RL.u (.not (.t U)) U ?_
   refine RL.nil (CW.at [Y 0 (str s),Y 3 (i64 p),Y 6 (.pointer (some ⟨b2,0,none⟩)),Y 15 (.bool (!(C0 (AR s p) (p==0))))] U ?_)
   refine CW.cond rfl ?_ ?_<;>intro hb2<;>try simp only[zb]at hb2
   ·have hw:=dU (f:=p==0) hp0 hlt
    refine CW.sr (RL.m U U (RL.m U U (RL.u (.PD (.t U) (.t U) Tryz.underlying9 (λ _=>by omega)) U (RL.a U U (RL.nil (CW.id (CW.ret (hE.r1 U U ?_))))))))
    exact⟨by rw[AY,<-hpF,PJ hp0 hlt (by rw[<-hw.1];exact hb2)],hS6.low⟩
   ·have hw:=dU (f:=p==0) hp0 hlt
    have hl1:runeLen s p=1:=hw.2 (by rw[<-hw.1];exact hb2)
    refine CW.skip λ a hs=>Exists.intro (p+runeLen s p) ⟨hs.BG [0,6],?_,?_⟩
    ·refine⟨hS6,?_⟩
     exact⟨by omega,by omega,by rw[<-hpF,hl1,PI hp0 hlt (by rw[<-hw.1];exact hb2)]⟩
    ·show Int.toNat _<Int.toNat _;omega
  ·refine RL.u (.ex (.t U) U) U (RL.nil (CW.id ?_))
   refine CW.seq (CW.cond rfl (λ h=>by cases h) (λ _=>(CW.exit (CW.at [Y 0 (str s)] rfl (CW.sr ?_)))))
   refine RL.m U U (RL.a U U (RL.nil (CW.id ?_)))
   refine CW.ret (hE.r1 U U ?_)
   exact⟨by rw[AY,<-hpF,PK hge,IP _ _ (by omega)],hS4.low⟩
end Go.Proofs.YtmjpjbmeamnfpaaGreatDoor
set_option maxRecDepth 100000
namespace Go.Proofs.YtmjpjbmeamnfpaaGreatDoor
open Go.Eng
theorem iR(w:World):(callFunc 264 #[]).run Tryz.prog w= .ok (.value (.tuple #[])) w:=run_call_mark0 Tryz.func264 (by kernel_rfl) (by kernel_rfl) (by kernel_rfl) .disable (by kernel_rfl) w
theorem iS(w:World):(callFunc 266 #[]).run Tryz.prog w= .ok (.value (.tuple #[])) w:=run_call_mark0 Tryz.func266 (by kernel_rfl) (by kernel_rfl) (by kernel_rfl) .enable (by kernel_rfl) w
theorem vI(a:Addr)(w:World):(callFunc 267 #[.pointer (some a)]).run Tryz.prog w= .ok (.value (.tuple #[])) w:=run_call_marked Tryz.func267 (by kernel_rfl) (by kernel_rfl) (by kernel_rfl) .acquire (by kernel_rfl) a w
theorem vJ(a:Addr)(w:World):(callFunc 269 #[.pointer (some a)]).run Tryz.prog w= .ok (.value (.tuple #[])) w:=run_call_marked Tryz.func269 (by kernel_rfl) (by kernel_rfl) (by kernel_rfl) .releaseMerge (by kernel_rfl) a w
theorem vK(a:Addr)(x:Value)(u:FrameMode)(w:World)(hc:w.cell? a=some x)(hz:w.frozen? a=false):
  CallsD Tryz.prog 202 #[.pointer (some a),.bool true] u w λ e u' w'=>u'=u/\(e= .returned (.tuple #[])/\w'=w.drew.setCell a (.int .u32 1)):=by
 have hc':w.drew.cell? a=some x:=by go_simp
 have hz':w.drew.frozen? a=false:=by go_simp
 have hst:=run_call_store (P:=Tryz.prog) Tryz.func239 (by kernel_rfl) (by kernel_rfl) (by kernel_rfl) (by kernel_rfl) (k:=.u32) (y:=1) hc' hz'
 go_enter_d Tryz.func202,Tryz.ntmps202
 go_wp2
 go_region_calls
 all_goals (go_end0;exact⟨rfl,rfl⟩)
theorem vL(a:Addr)(u:FrameMode)(w:World)(hc:w.cell? a=some (.int .i32 1))(hz:w.frozen? a=false):
  CallsD Tryz.prog 201 #[.pointer (some a)] u w λ e u' w'=>u'=u/\(e= .returned (.tuple #[])/\w'=w.setCell a (.int .i32 0)):=by
 have hd:=iR
 have he:=iS
 have hr:=vJ
 have hadd:=run_call_add (P:=Tryz.prog) Tryz.func270 (by kernel_rfl) (by kernel_rfl) (by kernel_rfl) .i32 (by kernel_rfl) (y:= -1) (s:=0) hc hz (by simp[go_sem];rfl)
 have hcv:=run_convert_to_unsafe (P:=Tryz.prog) (src:=297) (dst:=237) Tryz.underlying297 Tryz.underlying237 (by kernel_rfl) hc
 go_enter_d Tryz.func201,Tryz.ntmps201
 go_wp2
 go_end0
 go_wp2
 go_end0
 exact⟨rfl,rfl⟩
theorem vM(a:Addr)(w:World)(hc:w.cell? a=some (.int .i32 0))(hz:w.frozen? a=false):
  Calls Tryz.prog 200 #[.pointer (some a)] w λ e w'=>e= .returned (.tuple #[])/\w'=w.setCell a (.int .i32 1):=by
 have hd:=iR
 have he:=iS
 have ha:=vI
 have hcas:=run_call_cas_hit (P:=Tryz.prog) Tryz.func265 (by kernel_rfl) (by kernel_rfl) (by kernel_rfl) .i32 (by kernel_rfl) (y:=1) hc hz
 have hc':(w.setCell a (.int .i32 1)).cell? a=some (.int .i32 1):=World.cell?_setCell_same w a _ hc
 have hcv:=run_convert_to_unsafe (P:=Tryz.prog) (src:=297) (dst:=237) Tryz.underlying297 Tryz.underlying237 (by kernel_rfl) hc'
 go_enter Tryz.func200,Tryz.ntmps200
 go_wp2
 first|go_end0|(simp only[Exit.inBlock,Exit.then];refine bodyPost_ret (results_none U _ _ _) U ?_)|refine bodyPost_ret (results_none U _ _ _) U ?_
 go_wp2
 go_end0
 exact⟨rfl,rfl⟩
set_option maxHeartbeats 1600000 in
theorem vN(g:Nat)(fv:Array Value)(b:Nat)(w:World)(R:World->Prop)(cg: ∀args w,(callFunc g args).run Tryz.prog w= .ok (.enter g args) w)
  (h0:w.cell? ⟨b,0,none⟩=some (.int .u32 0)) (h1:w.cell? ⟨b,1,none⟩=some (.int .i32 0)) (f1:w.frozen? ⟨b,1,none⟩=false)
  (hclo:Calls Tryz.prog g fv (w.setCell ⟨b,1,none⟩ (.int .i32 1)) λ e w'=>e= .returned (.tuple #[])/\w'.cell? ⟨b,0,none⟩=some (.int .u32 0)/\w'.frozen? ⟨b,0,none⟩=false/\w'.cell? ⟨b,1,none⟩=some (.int .i32 1)/\w'.frozen? ⟨b,1,none⟩=false/\R w'):
  Calls Tryz.prog 152 #[.pointer (some ⟨b,0,none⟩),.func (.func g) #[] fv] w λ e w'=>e= .returned (.tuple #[])/\ ∃w1,R w1/\w1.cell? ⟨b,0,none⟩=some (.int .u32 0)/\w1.frozen? ⟨b,0,none⟩=false/\w1.cell? ⟨b,1,none⟩=some (.int .i32 1)/\w1.frozen? ⟨b,1,none⟩=false/\w'=(w1.drew.setCell ⟨b,0,none⟩ (.int .u32 1)).setCell ⟨b,1,none⟩ (.int .i32 0):=by
 have hl:=run_call_load (P:=Tryz.prog) Tryz.func199 (by kernel_rfl) (by kernel_rfl) (by kernel_rfl) .u32 (by kernel_rfl) (w:=w.setCell ⟨b,1,none⟩ (.int .i32 1)) (a:=⟨b,0,none⟩) (x:=0) ((World.cell?_setCell_other _ ⟨b,1,none⟩ ⟨b,0,none⟩ _ (by simp)).trans h0)
 have hnot: ∀(x:Bool) (w:World),(Op.unary .not (.bool x)).run Tryz.prog w= .ok (.bool (!x)) w:=λ _ _=>rfl
 go_enter_defers Tryz.func152,Tryz.ntmps152
 go_wp2_with (first|(go_at_call 200;refine(vM ⟨b,1,none⟩ _ (by go_simp) (by go_simp)).mono ?_;rintro e w' ⟨rfl,rfl⟩)|(go_at_call 151;go_in))
 refine hclo.mono ?_
 rintro e w' ⟨rfl,c0,z0,c1,z1,hR⟩
 rename_i hk
 refine hk _ _ ?_
 go_wp2
 refine leaves_cons (f:=202) (args:= #[.pointer (some ⟨b,0,none⟩),.bool true]) (by simp) (by simp[go_sem]) ?_
 refine(vK ⟨b,0,none⟩ (.int .u32 0) .returning _ c0 z0).mono ?_
 rintro e u' w'' ⟨rfl,rfl,rfl⟩
 refine leaves_cons (f:=201) (args:= #[.pointer (some ⟨b,1,none⟩)]) (by simp[settle]) (by simp[go_sem]) ?_
 refine(vL ⟨b,1,none⟩ _ _ ?_ (by simp[z1])).mono ?_
 ·refine(World.cell?_setCell_other _ ⟨b,0,none⟩ ⟨b,1,none⟩ _ (by simp)).trans ?_
  rw[World.cell?_drew];exact c1
 rintro e u' w'' ⟨rfl,rfl,rfl⟩
 have hfin:(Ending.returned (.tuple #[])=Ending.returned (.tuple #[]))/\ ∃w1,R w1/\w1.cell? ⟨b,0,none⟩=some (.int .u32 0)/\w1.frozen? ⟨b,0,none⟩=false/\w1.cell? ⟨b,1,none⟩=some (.int .i32 1)/\w1.frozen? ⟨b,1,none⟩=false/\(w'.drew.setCell ⟨b,0,none⟩ (.int .u32 1)).setCell ⟨b,1,none⟩ (.int .i32 0)=(w1.drew.setCell ⟨b,0,none⟩ (.int .u32 1)).setCell ⟨b,1,none⟩ (.int .i32 0):=⟨rfl,w',hR,c0,z0,c1,z1,rfl⟩
 simpa[Leaves,settle,results,Tryz.results152]using hfin
set_option maxHeartbeats 1600000 in
theorem vO(g:Nat)(fv:Array Value)(b:Nat)(w:World)(R:World->Prop)(cg: ∀args w,(callFunc g args).run Tryz.prog w= .ok (.enter g args) w)
  (h0:w.cell? ⟨b,0,none⟩=some (.int .u32 0)) (h1:w.cell? ⟨b,1,none⟩=some (.int .i32 0)) (f1:w.frozen? ⟨b,1,none⟩=false)
  (hclo:Calls Tryz.prog g fv (w.setCell ⟨b,1,none⟩ (.int .i32 1)) λ e w'=>e= .returned (.tuple #[])/\w'.cell? ⟨b,0,none⟩=some (.int .u32 0)/\w'.frozen? ⟨b,0,none⟩=false/\w'.cell? ⟨b,1,none⟩=some (.int .i32 1)/\w'.frozen? ⟨b,1,none⟩=false/\R w'):
  Calls Tryz.prog 113 #[.pointer (some ⟨b,0,none⟩),.func (.func g) #[] fv] w λ e w'=>e= .returned (.tuple #[])/\ ∃w1,R w1/\w1.cell? ⟨b,0,none⟩=some (.int .u32 0)/\w1.frozen? ⟨b,0,none⟩=false/\w1.cell? ⟨b,1,none⟩=some (.int .i32 1)/\w1.frozen? ⟨b,1,none⟩=false/\w'=(w1.drew.setCell ⟨b,0,none⟩ (.int .u32 1)).setCell ⟨b,1,none⟩ (.int .i32 0):=by
 have hl:=run_call_load (P:=Tryz.prog) Tryz.func199 (by kernel_rfl) (by kernel_rfl) (by kernel_rfl) .u32 (by kernel_rfl) h0
 have hnot: ∀(x:Bool) (w:World),(Op.unary .not (.bool x)).run Tryz.prog w= .ok (.bool (!x)) w:=λ _ _=>rfl
 go_enter Tryz.func113,Tryz.ntmps113
 go_wp2_with (first|(go_at_call 152;refine(vN g fv b _ R cg h0 h1 f1 hclo).mono ?_;rintro e w' ⟨rfl,hw⟩)|(go_at_call 151;go_in))
 go_end0
 exact⟨rfl,hw⟩
theorem vP(a:Addr)(d:Int)(hd: ¬d=0)(fv:Value)(w:World)(h0:w.cell? a=some (.int .u32 d)):
  Calls Tryz.prog 113 #[.pointer (some a),fv] w λ e w'=>e= .returned (.tuple #[])/\w'=w:=by
 have hl:=run_call_load (P:=Tryz.prog) Tryz.func199 (by kernel_rfl) (by kernel_rfl) (by kernel_rfl) .u32 (by kernel_rfl) h0
 have hnot: ∀(x:Bool) (w:World),(Op.unary .not (.bool x)).run Tryz.prog w= .ok (.bool (!x)) w:=λ _ _=>rfl
 have hd':(d != 0)=true:=by simp[hd]
 go_enter Tryz.func113,Tryz.ntmps113
 go_wp2
 go_end0
 exact⟨rfl,rfl⟩
end Go.Proofs.YtmjpjbmeamnfpaaGreatDoor
namespace Go.Eng
open Go.RowKit
theorem iT{k:Int}(h:0<=k):BF (k+1)=48::BF k:=by unfold BF;rw[show(k+1).toNat=k.toNat+1 from by omega,List.replicate_succ]
theorem ZT{k:Int}(h:0<=k):BF (k+1)=BF k++[48]:=by unfold BF;rw[show(k+1).toNat=k.toNat+1 from by omega,List.replicate_succ']
theorem ZU{s:A1}{p:Int}(c:UInt8):((A3 s p).toNat.toUInt8=c)↔A3 s p=(c.toNat:Int):=by
 unfold A3
 rw[Int.toNat_natCast,<-UInt8.toNat_inj]
 simp;omega
theorem ZV(x:UInt8): ¬0<=Lib.indexByte [] x:=by unfold Lib.indexByte;decide
theorem ZW(c x:UInt8)(l:List UInt8):0<=Lib.indexByte (c::l) x↔c=x\/0<=Lib.indexByte l x:=by
 have hm: ∀l:List UInt8,-1<=Lib.indexByte l x:=by
  intro l
  induction l with
  |nil=>unfold Lib.indexByte;decide
  |cons a l ih=>unfold Lib.indexByte;(repeat' split)<;>omega
 have:=hm l
 rw[Lib.indexByte]
 by_cases h:c=x
 ·rw[if_pos (by simpa using h)];exact⟨λ _=>.inl h,λ _=>Int.le_refl _⟩
 ·rw[if_neg (by simpa using h)]
  by_cases h2:Lib.indexByte l x= -1
  ·rw[if_pos (by simpa using h2)];exact⟨λ h3=>by omega,λ h3=>h3.elim (λ h4=>absurd h4 h) (λ h4=>by omega)⟩
  ·rw[if_neg (by simpa using h2)];exact⟨λ _=>.inr (by omega),λ _=>by omega⟩
theorem QK{s:A1}{c:UInt8}{p:Int}:BU s [c] p=true↔p<len s/\A3 s p=(c.toNat:Int):=by
 unfold BU
 simp only[Bool.and_eq_true,decide_eq_true_eq,ZW,ZV,or_false]
 rw[<-ZU c,eq_comm (a:=c)]
theorem iU{s:A1}{c d:UInt8}{p:Int}:BU s [c,d] p=true↔p<len s/\(A3 s p=(c.toNat:Int)\/A3 s p=(d.toNat:Int)):=by
 unfold BU
 simp only[Bool.and_eq_true,decide_eq_true_eq,ZW,ZV,or_false]
 rw[<-ZU c,<-ZU d,eq_comm (a:=c),eq_comm (a:=d)]
def JX(s:A1):Int×Int×Bool:=
 let a:Int:=if 0<len s/\A3 s 0=45 then 1 else 0
 if AM s a=a then(a,a,false)else if A3 s a=48 then(a,a+1,true)else(a,AM s a,true)
def F5(s:A1)(i:Int):Int×A1×Int:=
 if i=len s\/ ¬(A3 s i=101\/A3 s i=69)then(0,[],i)
 else if i+1<len s/\(A3 s (i+1)=43\/A3 s (i+1)=45)then
  (if A3 s (i+1)=45 then-1 else 1,Eng.sub s (i+1+1) (AM s (i+1+1)),AM s (i+1+1))
 else(1,Eng.sub s (i+1) (AM s (i+1)),AM s (i+1))
def GA(s:A1)(fg:A1)(e:Int)(i:Int):Nd×Int×Int:=
 let p:=F5 s i
 if p.2.2<len s\/(p.1≠0/\p.2.1=[])then(AO,p.2.2,1)
 else if 6<len (AZ p.2.1)then(AO,0,2)
 else((EK (A3 s 0==45) fg (e+p.1*BE (AZ p.2.1))).1,0,(EK (A3 s 0==45) fg (e+p.1*BE (AZ p.2.1))).2)
def SY(s:A1):Nd×Int×Int:=
 let wh:=JX s
 if wh.2.2=false then(AO,wh.1,1)
 else if wh.2.1<len s/\A3 s wh.2.1=46 then
  if AM s (wh.2.1+1)=wh.2.1+1 then(AO,AM s (wh.2.1+1),1)
  else GA s (Eng.sub s wh.1 wh.2.1++Eng.sub s (wh.2.1+1) (AM s (wh.2.1+1))) (wh.2.1+1-AM s (wh.2.1+1)) (AM s (wh.2.1+1))
 else GA s (Eng.sub s wh.1 wh.2.1) 0 wh.2.1
theorem QL{α:Type}{s:List α}{i j:Int}(h0:0<=i)(h1:i<=j)(h2:j<=len s):Eng.sub s i j=[]↔j=i:=by
 constructor
 ·intro h
  have:=EV h0 h1 h2
  rw[h,len_nil]at this;omega
 ·rintro rfl;unfold Eng.sub;simp
theorem N5{s:A1}{i j k:Int}(h0:0<=i)(h1:0<=k)(h2:i+k<j)(h3:j<=len s):A3 (Eng.sub s i j) k=A3 s (i+k):=by
 unfold A3 Eng.sub
 rw[List.getD_eq_getElem?_getD,List.getElem?_take,if_pos (by omega),List.getElem?_drop,<-List.getD_eq_getElem?_getD,show i.toNat+k.toNat=(i+k).toNat from by omega]
theorem ZX{s fg:A1}{x b c2 side:Int}{pw:A1}(hp:F5 s b=(side,pw,c2))(h0:side≠0):GA s fg x b=if pw=[]\/c2<len s then(AO,c2,1)else FT (A3 s 0==45) fg x pw side:=by
 unfold GA FT
 rw[hp]
 dsimp only
 by_cases c3:pw=[]\/c2<len s
 ·rw[if_pos c3,if_pos (by rcases c3 with c3|c3;exact .inr ⟨h0,c3⟩;exact .inl c3)]
 ·rw[if_neg c3,if_neg (by rintro(c4|⟨_,c4⟩);exact c3 (.inr c4);exact c3 (.inl c4))]
theorem iV{s:A1}{neg:Bool}{fg:A1}{x b:Int}(hneg:neg=(A3 s 0==45))(h0:0<=b)(h1:b<=len s):
  FI s neg fg x b=GA s fg x b:=by
 subst hneg
 have e1:= @iU s 101 69 b
 have e2:= @QK s 45 (b+1)
 have e3:= @QK s 43 (b+1)
 simp only[show((101:UInt8).toNat:Int)=101 from rfl,show((69:UInt8).toNat:Int)=69 from rfl,show((45:UInt8).toNat:Int)=45 from rfl,show((43:UInt8).toNat:Int)=43 from rfl]at e1 e2 e3
 unfold FI
 by_cases c1:BU s [101,69] b=true
 ·have c1':=e1.1 c1
  have hn0: ¬(b=len s\/ ¬(A3 s b=101\/A3 s b=69)):=by rintro(h|h);omega;exact h c1'.2
  rw[if_pos c1,OK c1]
  unfold NN
  by_cases c2:BU s [45] (b+1)=true
  ·have c2':=e2.1 c2
   have hp:F5 s b=(-1,Eng.sub s (b+1+1) (AM s (b+1+1)),AM s (b+1+1)):=by
    unfold F5;rw[if_neg hn0,if_pos ⟨c2'.1,.inr c2'.2⟩,if_pos c2'.2]
   rw[ZX hp (by decide),OK c2]
   simp only[c2,if_true]
  ·rw[ML (by simpa using c2)]
   by_cases c4:BU s [43] (b+1)=true
   ·have c4':=e3.1 c4
    have hp:F5 s b=(1,Eng.sub s (b+1+1) (AM s (b+1+1)),AM s (b+1+1)):=by
     unfold F5;rw[if_neg hn0,if_pos ⟨c4'.1,.inl c4'.2⟩,if_neg (by omega)]
    rw[ZX hp (by decide),OK c4]
    simp only[c2,Bool.false_eq_true,if_false]
   ·rw[ML (by simpa using c4)]
    have hn: ¬(b+1<len s/\(A3 s (b+1)=43\/A3 s (b+1)=45)):=by
     rintro⟨h2,h3|h3⟩
     ·exact c4 (e3.2 ⟨h2,h3⟩)
     ·exact c2 (e2.2 ⟨h2,h3⟩)
    have hp:F5 s b=(1,Eng.sub s (b+1) (AM s (b+1)),AM s (b+1)):=by
     unfold F5;rw[if_neg hn0,if_neg hn]
    rw[ZX hp (by decide)]
    simp only[c2,Bool.false_eq_true,if_false]
 ·have hn:b=len s\/ ¬(A3 s b=101\/A3 s b=69):=by
   by_cases h:b=len s
   ·exact .inl h
   ·exact .inr λ h2=>c1 (e1.2 ⟨by omega,h2⟩)
  have hp:F5 s b=(0,[],b):=by unfold F5;rw[if_pos hn]
  rw[if_neg c1,ML (by simpa using c1)]
  unfold GA FT
  rw[hp]
  dsimp only
  by_cases c3:b<len s
  ·rw[if_pos c3,if_pos (.inl c3)]
  ·rw[if_neg c3,if_neg (show ¬(b<len s\/((0:Int)≠0/\([]:A1)=[]))from by rintro(h|h);exact c3 h;exact h.1 rfl)]
   simp only[show AZ []=[]from rfl,len_nil,show ¬((6:Int)<0)from by decide,if_false,show BE []=0 from rfl,Int.mul_zero]
theorem iW{s:A1}{a:Int}(ha:B5 s [45] 0=a):C3 s=
 if 1<len (Eng.sub s a (AM s a))/\A3 (Eng.sub s a (AM s a)) 0=48 then(AO,a+1,1)
 else if Eng.sub s a (AM s a)=[]then(AO,AM s a,1)
 else if BU s [46] (AM s a)then
  if Eng.sub s (B5 s [46] (AM s a)) (AM s (B5 s [46] (AM s a)))=[]then(AO,AM s (B5 s [46] (AM s a)),1)
  else FI s (BU s [45] 0) (Eng.sub s a (AM s a)++Eng.sub s (B5 s [46] (AM s a)) (AM s (B5 s [46] (AM s a)))) (-(len (Eng.sub s (B5 s [46] (AM s a)) (AM s (B5 s [46] (AM s a)))))) (AM s (B5 s [46] (AM s a)))
 else FI s (BU s [45] 0) (Eng.sub s a (AM s a)) 0 (B5 s [46] (AM s a)):=by subst ha;rfl
theorem ZY{s:A1}{a b:Int}(hw:JX s=(a,b,true)):SY s=
  if b<len s/\A3 s b=46 then
   if AM s (b+1)=b+1 then(AO,AM s (b+1),1)
   else GA s (Eng.sub s a b++Eng.sub s (b+1) (AM s (b+1))) (b+1-AM s (b+1)) (AM s (b+1))
  else GA s (Eng.sub s a b) 0 b:=by
 unfold SY;rw[hw];simp only[Bool.true_eq_false,if_false]
theorem iX{s:A1}{a b:Int}{neg:Bool}(hneg:neg=(A3 s 0==45))(h0:0<=a)(h1:a<=b)(h2:b<=len s):
  (if BU s [46] b then
   if Eng.sub s (B5 s [46] b) (AM s (B5 s [46] b))=[]then(AO,AM s (B5 s [46] b),1)
   else FI s neg (Eng.sub s a b++Eng.sub s (B5 s [46] b) (AM s (B5 s [46] b))) (-(len (Eng.sub s (B5 s [46] b) (AM s (B5 s [46] b))))) (AM s (B5 s [46] b))
  else FI s neg (Eng.sub s a b) 0 (B5 s [46] b))=
  if b<len s/\A3 s b=46 then
   if AM s (b+1)=b+1 then(AO,AM s (b+1),1)
   else GA s (Eng.sub s a b++Eng.sub s (b+1) (AM s (b+1))) (b+1-AM s (b+1)) (AM s (b+1))
  else GA s (Eng.sub s a b) 0 b:=by
 have h46:= @QK s 46 b
 simp only[show((46:UInt8).toNat:Int)=46 from rfl]at h46
 by_cases c3:BU s [46] b=true
 ·have c3':=h46.1 c3
  rw[if_pos c3,if_pos c3',OK c3]
  have hb2:=KC s (b+1) (by omega) (by omega)
  have hnil2:=QL (s:=s) (i:=b+1) (j:=AM s (b+1)) (by omega) hb2.1 hb2.2
  by_cases c4:AM s (b+1)=b+1
  ·rw[if_pos c4,if_pos (hnil2.2 c4)]
  ·rw[if_neg c4,if_neg (λ h=>c4 (hnil2.1 h))]
   rw[iV hneg (by omega) hb2.2,EV (by omega) hb2.1 hb2.2]
   congr 1;omega
 ·rw[if_neg c3,if_neg (λ h=>c3 (h46.2 h)),ML (by simpa using c3)]
  rw[iV hneg (by omega) (by omega)]
theorem vQ(s:A1):SY s=C3 s:=by
 have h45:= @QK s 45 0
 simp only[show((45:UInt8).toNat:Int)=45 from rfl]at h45
 have hl:=AA s
 have hneg:BU s [45] 0=(A3 s 0==45):=by
  rw[Bool.eq_iff_iff,h45,beq_iff_eq]
  refine⟨λ h=>h.2,λ h=>⟨?_,h⟩⟩
  rcases Int.lt_or_le 0 (len s)with h2|h2
  ·exact h2
  ·have:s=[]:=by cases s with|nil=>rfl|cons a l=>rw[A7]at h2;have:=AA l;omega
   subst this;revert h;decide
 have ha:(if 0<len s/\A3 s 0=45 then(1:Int)else 0)=B5 s [45] 0:=by
  unfold B5
  by_cases c:BU s [45] 0=true
  ·rw[if_pos c,if_pos (h45.1 c)];rfl
  ·rw[if_neg c,if_neg (λ h=>c (h45.2 h))]
 have hab:=NM s [45] 0 hl
 generalize hA:B5 s [45] 0=a at*
 have hw:JX s=if AM s a=a then(a,a,false)else if A3 s a=48 then(a,a+1,true)else(a,AM s a,true):=by unfold JX;simp only[ha]
 have hb:=KC s a hab.1 hab.2
 have hnil:=QL hab.1 hb.1 hb.2
 have hfl:=EV hab.1 hb.1 hb.2
 rw[iW hA]
 by_cases c0:AM s a=a
 ·rw[if_pos c0]at hw
  have hs:=hnil.2 c0
  rw[hs,if_neg (by rw[len_nil];omega),if_pos U,c0]
  unfold SY;rw[hw];rfl
 ·rw[if_neg c0]at hw
  have hs: ¬Eng.sub s a (AM s a)=[]:=λ h=>c0 (hnil.1 h)
  have hb0:A3 (Eng.sub s a (AM s a)) 0=A3 s a:=by rw[N5 hab.1 (by omega) (by omega) hb.2,Int.add_zero]
  by_cases c1:A3 s a=48
  ·rw[if_pos c1]at hw
   by_cases c2:1<len (Eng.sub s a (AM s a))
   ·have hfig:= @eY s a (a+1) hab.1 (by omega) (by omega)
    unfold BM at hfig
    simp only[Bool.and_eq_true,decide_eq_true_eq]at hfig
    have hp:F5 s (a+1)=(0,[],a+1):=by unfold F5;rw[if_pos (.inr (by omega))]
    rw[if_pos ⟨c2,by rw[hb0,c1]⟩,ZY hw,if_neg (by omega)]
    unfold GA;rw[hp];dsimp only
    rw[if_pos (.inl (by omega))]
   ·have he:AM s a=a+1:=by omega
    rw[he]at c2 hs hb
    rw[he,if_neg (λ h=>c2 h.1),if_neg hs,iX hneg hab.1 (by omega) (by omega),ZY hw]
  ·rw[if_neg c1]at hw
   rw[if_neg (λ h=>c1 (by rw[<-hb0];exact h.2)),if_neg hs,iX hneg hab.1 (by omega) (by omega),ZY hw]
theorem vR{s:A1}{i:Int}(h0:0<=i)(h1:i<=len s):(-1<=(F5 s i).1/\(F5 s i).1<=1)/\(0<=len (F5 s i).2.1/\len (F5 s i).2.1<=len s)/\(i<=(F5 s i).2.2/\(F5 s i).2.2<=len s)/\ ∀b∈(F5 s i).2.1,C7 b=true:=by
 unfold F5
 split
 ·refine⟨by dsimp only;omega,⟨Int.le_refl _,AA s⟩,by dsimp only;omega,by intro b hb;cases hb⟩
 ·rename_i hn
  have hlt:i<len s:=by
   rcases Int.lt_or_le i (len s)with h|h
   ·exact h
   ·exact absurd (.inl (by omega)) hn
  split
  ·rename_i h2
   have hr:=KC s (i+1+1) (by omega) (by omega)
   refine⟨by dsimp only;split<;>omega,GV _ _ _,by dsimp only;omega,RM (by omega)⟩
  ·have hr:=KC s (i+1) (by omega) (by omega)
   refine⟨by dsimp only;omega,GV _ _ _,by dsimp only;omega,RM (by omega)⟩
theorem vS{t:A1}(h: ∀b∈t,C7 b=true)(hl:len t<=6)(k:Int):0<=BE (Eng.sub t 0 k)/\BE (Eng.sub t 0 k)<1000000:=by
 have h1:=UJ (Eng.sub t 0 k) 0 (λ b hb=>h b ((List.take_sublist _ _).subset hb|>λ x=>by simpa using x)) (by omega)
 have h2:=GV t 0 k
 have h3:(10:Int)^ (Eng.sub t 0 k).length<=10^6:=by
  have:(10:Nat)^ (Eng.sub t 0 k).length<=10^6:=Nat.pow_le_pow_right (by omega) (by unfold len at*;omega)
  exact_mod_cast this
 unfold BE;omega
theorem vT(s:A1):0<=(JX s).1/\(JX s).1<=len s/\(JX s).1<=(JX s).2.1/\(JX s).2.1<=len s/\((JX s).2.2=true->0<len s):=by
 have hl:=AA s
 have key: ∀a:Int,0<=a->a<=len s->(let w:=if AM s a=a then(a,a,false)else if A3 s a=48 then(a,a+1,true)else(a,AM s a,true);0<=w.1/\w.1<=len s/\w.1<=w.2.1/\w.2.1<=len s/\(w.2.2=true->0<len s)):=by
  intro a h0 h1
  have hr:=KC s a h0 h1
  dsimp only
  split
  ·exact⟨h0,h1,Int.le_refl _,h1,λ h=>by cases h⟩
  ·split
   ·refine⟨h0,h1,?_,?_,λ _=>?_⟩<;>(try dsimp only)<;>omega
   ·refine⟨h0,h1,?_,?_,λ _=>?_⟩<;>(try dsimp only)<;>omega
 unfold JX
 exact key _ (by split<;>omega) (by split<;>omega)
theorem vU(s:A1):0<=(C3 s).2.1/\(C3 s).2.1<=len s/\((C3 s).2.2=0\/(C3 s).2.2=1\/(C3 s).2.2=2\/(C3 s).2.2=4):=by
 have hmk: ∀(neg:Bool) (fg:A1) (x:Int),(EK neg fg x).2=0\/(EK neg fg x).2=2\/(EK neg fg x).2=4:=by
  intro neg fg x;unfold EK;(repeat' split)<;>simp
 have hw:=vT s
 have hl:=AA s
 have hx: ∀(fg:A1) (e i:Int),0<=i->i<=len s->0<=(GA s fg e i).2.1/\(GA s fg e i).2.1<=len s/\((GA s fg e i).2.2=0\/(GA s fg e i).2.2=1\/(GA s fg e i).2.2=2\/(GA s fg e i).2.2=4):=by
  intro fg e i h0 h1
  have hp:=vR h0 h1
  unfold GA
  dsimp only
  split
  ·exact⟨by dsimp only;omega,by dsimp only;omega,.inr (.inl U)⟩
  ·split
   ·exact⟨Int.le_refl _,hl,.inr (.inr (.inl U))⟩
   ·refine⟨Int.le_refl _,hl,?_⟩
    dsimp only
    have:=hmk (A3 s 0==45) fg (e+(F5 s i).1*BE (AZ (F5 s i).2.1))
    rcases this with h|h|h<;>rw[h]<;>simp
 rw[<-vQ]
 unfold SY
 dsimp only
 split
 ·exact⟨by dsimp only;omega,by dsimp only;omega,.inr (.inl U)⟩
 ·split
  ·rename_i h2
   have hr:=KC s ((JX s).2.1+1) (by omega) (by omega)
   split
   ·exact⟨by dsimp only;omega,by dsimp only;omega,.inr (.inl U)⟩
   ·exact hx _ _ _ (by omega) (by omega)
  ·exact hx _ _ _ (by omega) (by omega)
def H4(e:Int×Int):A1×Int:=if e.2=0 then([],0)else(toStr (Lib.encodeRuneZ e.1),e.2)
def F6(s:A1)(i:Int):A1×Int:=if A3 s i=92 then H4 (B2 (A4 s i))else(Eng.sub s i (i+rune s i),rune s i)
def LV(f:Nat)(s:A1)(i:Int)(o:A1):Prop:= ∃acc,o=toStr acc/\DP f s i acc=AS s
theorem VP(a b:List Int):toStr (a++b)=toStr a++toStr b:=List.map_append
theorem ID{s:A1}{i:Int}(h0:0<=i)(h1:i<len s){c:Int}(hc:c<128):AR s i=c↔A3 s i=c:=by
 rcases MM h0 h1 with⟨_,h2,_,h3⟩|⟨_,_,_,_,h2,h3⟩<;>omega
theorem iY{s:A1}{i:Int}(h0:0<=i)(h1:i<len s){c:Int}(hc:c<=128):AR s i<c↔A3 s i<c:=by
 rcases MM h0 h1 with⟨_,h2,_,h3⟩|⟨_,_,_,_,h2,h3⟩<;>omega
theorem VQ{s:A1}{i:Int}(h0:0<=i)(h1:i<len s):rune s i=0↔(AR s i=65533/\runeLen s i=1):=by
 rcases MM h0 h1 with⟨h2,h3,h4,_⟩|⟨h2,h3,h4,_,_⟩
 ·exact⟨λ _=>⟨h3,h4⟩,λ _=>h2⟩
 ·exact⟨λ h=>by omega,λ h=>absurd h h4⟩
theorem LV.quote {f:Nat}{s o:A1}{i:Int}(h:LV f s i o)(hf:(len s-i).toNat<=f)(h0:0<=i)(h1:i<len s)(h2:A3 s i=34):AS s=(o,i+1,0):=by
 obtain⟨acc,rfl,h⟩:=h
 rw[<-h,KE hf h1,if_pos (by rw[PS s i h0,ID h0 h1 (by decide)];exact h2)]
theorem LV.bad {f:Nat}{s o:A1}{i:Int}(h:LV f s i o)(hf:(len s-i).toNat<=f)(h0:0<=i)(h1:i<len s)(h2: ¬A3 s i=34)(h3:(F6 s i).2=0\/A3 s i<32):AS s=([],i,1):=by
 obtain⟨acc,rfl,h⟩:=h
 rw[<-h,KE hf h1,PS s i h0,ON s i h0,if_neg (by rw[ID h0 h1 (by decide)];exact h2)]
 unfold F6 H4 at h3
 by_cases h4:A3 s i=92
 ·rw[if_pos (by rw[ID h0 h1 (by decide)];exact h4)]
  rw[if_pos h4]at h3
  have:(B2 (A4 s i)).2=0:=by
   rcases h3 with h3|h3
   ·split at h3
    ·assumption
    ·exact h3
   ·omega
  rw[if_pos this]
 ·rw[if_neg (by rw[ID h0 h1 (by decide)];exact h4)]
  rw[if_neg h4]at h3
  dsimp only at h3
  rw[if_pos]
  rcases h3 with h3|h3
  ·exact .inr ((VQ h0 h1).1 h3)
  ·exact .inl ((iY h0 h1 (by decide)).2 h3)
theorem LV.step {f:Nat}{s o:A1}{i:Int}(h:LV f s i o)(hf:(len s-i).toNat<=f)(h0:0<=i)(h1:i<len s)(h2: ¬A3 s i=34)(h3: ¬((F6 s i).2=0\/A3 s i<32)):
  LV (f-1) s (i+(F6 s i).2) (o++(F6 s i).1):=by
 obtain⟨acc,rfl,h⟩:=h
 rw[KE hf h1,PS s i h0,ON s i h0,if_neg (by rw[ID h0 h1 (by decide)];exact h2)]at h
 unfold F6 H4 at*
 by_cases h4:A3 s i=92
 ·rw[if_pos (by rw[ID h0 h1 (by decide)];exact h4)]at h
  rw[if_pos h4]at h3 ⊢
  by_cases h5:(B2 (A4 s i)).2=0
  ·rw[if_pos h5]at h3;exact absurd (.inl U) h3
  ·rw[if_neg h5]at h ⊢
   exact⟨_,(VP _ _).symm,h⟩
 ·rw[if_neg (by rw[ID h0 h1 (by decide)];exact h4)]at h
  rw[if_neg h4]at h3 ⊢
  dsimp only at h3 ⊢
  rw[if_neg]at h
  ·rcases MM h0 h1 with⟨h5,_⟩|⟨_,h5,_,h6,_⟩
   ·exact absurd (.inl h5) h3
   ·rw[h5]at h
    exact⟨_,by rw[VP,h6],h⟩
  ·rintro(h5|h5)
   ·exact h3 (.inr ((iY h0 h1 (by decide)).1 h5))
   ·exact h3 (.inl ((VQ h0 h1).2 h5))
theorem LV.ZZ {f:Nat}{s o:A1}{i:Int}(h:LV f s i o)(h1: ¬i<len s):AS s=([],len s,1):=by
 obtain⟨acc,rfl,h⟩:=h
 rw[<-h,fJ h1]
theorem vV{s:A1}{i:Int}(h0:0<=i)(h1:i<len s):0<=(F6 s i).2/\i+(F6 s i).2<=len s/\len (F6 s i).1<=4/\(¬A3 s i=92->len (F6 s i).1=rune s i):=by
 have h2:=US (A4 s i)
 have h3:=DV s i h0 (by omega)
 have h4:=rune_le s i h1
 have h5:=L8 s i
 have h6:=EV (s:=s) (i:=i) (j:=i+rune s i) h0 (by omega) (by omega)
 have h7:=Lib.encodeRuneZ_length (B2 (A4 s i)).1
 unfold F6 H4
 split
 ·rename_i h8
  refine⟨?_,?_,?_,λ h=>absurd h8 h⟩
  ·split<;>(dsimp only;omega)
  ·split<;>(dsimp only;omega)
  ·split
   ·decide
   ·unfold len toStr;simp;omega
 ·dsimp only;exact⟨h5.1,h4,by omega,λ _=>by omega⟩
theorem LW{s:A1}{c:UInt8}:Lib.hasPrefix s [c]=true↔ ¬s=[]/\A3 s 0=(c.toNat:Int):=by
 cases s with
 |nil=>simp[Lib.hasPrefix]
 |cons a l=>
  have:A3 (a::l) 0=(a.toNat:Int):=rfl
  rw[this]
  simp only[Lib.hasPrefix,List.isPrefixOf,List.isPrefixOf_nil_left,Bool.and_true,beq_iff_eq,reduceCtorEq,not_false_eq_true,true_and]
  rw[<-UInt8.toNat_inj];omega
def KQ:A1:=[34,92,47,98,102,110,114,116]
def iZ:A1:=[34,92,47,8,12,10,13,9]
def QM(c k:Int):Prop:= ∀j:Int,0<=j->j<k->c≠A3 KQ j
theorem QM.step {c k:Int}(h:QM c k)(h2: ¬c=A3 KQ k):QM c (k+1):=by
 intro j h3 h4
 by_cases h5:j=k
 ·subst h5;exact h2
 ·exact h j h3 (by omega)
theorem QM.ZZ {c k:Int}(h:QM c k)(hk:8<=k):HI c=false:=by
 have h0:=h 0 (by omega) (by omega)
 have h1:=h 1 (by omega) (by omega)
 have h2:=h 2 (by omega) (by omega)
 have h3:=h 3 (by omega) (by omega)
 have h4:=h 4 (by omega) (by omega)
 have h5:=h 5 (by omega) (by omega)
 have h6:=h 6 (by omega) (by omega)
 have h7:=h 7 (by omega) (by omega)
 have e:A3 KQ 0=34/\A3 KQ 1=92/\A3 KQ 2=47/\A3 KQ 3=98/\A3 KQ 4=102/\A3 KQ 5=110/\A3 KQ 6=114/\A3 KQ 7=116:=by decide
 unfold HI;simp;omega
theorem vW{c k:Int}(h0:0<=k)(h1:k<8)(h2:c=A3 KQ k):HI c=true/\toStr (Lib.encodeRuneZ (IT c))=Eng.sub iZ k (k+1):=by
 subst h2
 have:k=0\/k=1\/k=2\/k=3\/k=4\/k=5\/k=6\/k=7:=by omega
 rcases this with rfl|rfl|rfl|rfl|rfl|rfl|rfl|rfl<;>exact⟨by decide,by decide⟩
theorem vX{s:A1}(h1: ¬len s<2)(h2:HI (A3 s 1)=true):H4 (B2 s)=(toStr (Lib.encodeRuneZ (IT (A3 s 1))),2):=by
 unfold B2;rw[if_neg h1,if_pos h2];rfl
def C1(c:Int):Int:=if 48<=c/\c<=57 then c-48 else if 97<=c/\c<=102 then c-87 else if 65<=c/\c<=70 then c-55 else-1
theorem a6(b:UInt8):LB b=C1 (b.toNat:Int):=by unfold LB C1;(repeat' split)<;>omega
theorem j0{s:A1}{i k:Int}(h:0<=i)(h0:i<=k)(h1:k<len s): ∃b,Eng.sub s i (k+1)=Eng.sub s i k++[b]/\(b.toNat:Int)=A3 s k:=by
 have h2:k.toNat<s.length:=by unfold len at h1;omega
 refine⟨s[k.toNat],?_,by simp[A3,h2]⟩
 unfold Eng.sub
 have h3:k.toNat-i.toNat<(s.drop i.toNat).length:=by rw[List.length_drop];omega
 rw[show(k+1).toNat-i.toNat=(k.toNat-i.toNat)+1 from by omega,List.take_succ_eq_append_getElem h3,List.getElem_drop]
 congr 3;omega
theorem SZ{s:A1}{i k:Int}(h:0<=i)(h0:i<=k)(h1:k<len s)(h2:ER (Eng.sub s i k)=true)(h3:0<=C1 (A3 s k)):
  ER (Eng.sub s i (k+1))=true/\F9 (Eng.sub s i (k+1))=F9 (Eng.sub s i k)*16+C1 (A3 s k):=by
 obtain⟨b,h4,h5⟩:=j0 h h0 h1
 rw[h4,<-h5,<-a6]
 rw[<-h5,<-a6]at h3
 unfold ER F9 at*
 rw[List.all_append,h2,List.foldl_append]
 simp[h3]
theorem a7{s:A1}{i k j:Int}(h:0<=i)(h0:i<=k)(h1:k<j)(h2:j<=len s)(h3:C1 (A3 s k)<0):ER (Eng.sub s i j)=false:=by
 unfold ER
 rw[List.all_eq_false]
 have hk:k.toNat<s.length:=by unfold len at h2;omega
 refine⟨s[k.toNat],?_,?_⟩
 ·unfold Eng.sub
  rw[List.mem_take_iff_getElem]
  refine⟨k.toNat-i.toNat,by rw[List.length_drop];omega,?_⟩
  rw[List.getElem_drop];congr 1;omega
 ·rw[a6]
  have:((s[k.toNat]).toNat:Int)=A3 s k:=by simp[A3,hk]
  rw[this];simp;omega
theorem vY{l:A1}(h:ER l=true)(hl:len l<=4):0<=F9 l/\F9 l<=65535:=by
 unfold ER at h
 have:=RN l 0 (by simpa[List.all_eq_true]using h) (by omega)
 have h2:(16:Int)^l.length<=16^4:=by
  have:(16:Nat)^l.length<=16^4:=Nat.pow_le_pow_right (by omega) (by unfold len at hl;omega)
  exact_mod_cast this
 unfold F9;omega
theorem vZ{l:A1}(h:ER l=true)(hl:len l<=3):0<=F9 l/\F9 l<=4095:=by
 unfold ER at h
 have:=RN l 0 (by simpa[List.all_eq_true]using h) (by omega)
 have h2:(16:Int)^l.length<=16^3:=by
  have:(16:Nat)^l.length<=16^3:=Nat.pow_le_pow_right (by omega) (by unfold len at hl;omega)
  exact_mod_cast this
 unfold F9;omega
theorem VR{s:A1}{i:Int}(h0:0<=i)(h1:i+6<=len s)(h2:A3 s i=92)(h3:A3 s (i+1)=117):
  BB (A4 s i)=if ER (Eng.sub s (i+2) (i+6))then F9 (Eng.sub s (i+2) (i+6))else-1:=by
 have e:Eng.sub (A4 s i) 2 6=Eng.sub s (i+2) (i+6):=by
  unfold Eng.sub A4;rw[List.drop_drop];congr 1
  ·omega
  ·congr 1;omega
 unfold BB
 rw[if_neg (by rw[DV s i h0 (by omega)];omega),e,if_neg]
 obtain⟨a,ha,hb⟩:=IS s i h0 (by omega)
 obtain⟨c,hc,hd⟩:=IS s (i+1) (by omega) (by omega)
 rw[ha,hc]
 have ea:a=92:=by rw[<-UInt8.toNat_inj];show a.toNat=92;omega
 have ec:c=117:=by rw[<-UInt8.toNat_inj];show c.toNat=117;omega
 rw[ea,ec];simp[Lib.hasPrefix]
theorem j1{s:A1}{i:Int}(h0:0<=i)(h:len s<i+6\/ ¬A3 s i=92\/ ¬A3 s (i+1)=117):BB (A4 s i)= -1:=by
 unfold BB
 by_cases h1:len (A4 s i)<6
 ·rw[if_pos h1]
 ·rw[if_neg h1]
  have h2:=UR s i h0
  have h3:i+6<=len s:=by split at h2<;>omega
  rw[if_pos]
  obtain⟨a,ha,hb⟩:=IS s i h0 (by omega)
  obtain⟨c,hc,hd⟩:=IS s (i+1) (by omega) (by omega)
  rw[ha,hc]
  cases hp:Lib.hasPrefix (a::c::A4 s (i+1+1)) [92,117]with
  |false=>rfl
  |true=>
   exfalso
   simp[Lib.hasPrefix]at hp
   obtain⟨rfl,rfl⟩:=hp
   rcases h with h|h|h
   ·omega
   ·exact h (by rw[hb];rfl)
   ·exact h (by rw[hd];rfl)
theorem j3{r:Int}(h:128<=r): ∀b∈toStr (Lib.encodeRuneZ r),128<=b.toNat:=by
 have key: ∀x∈Lib.encodeRuneZ r,128<=x:=by
  intro x hx
  unfold Lib.encodeRuneZ at hx
  (repeat' split at hx)<;>simp at hx<;>omega
 intro b hb
 unfold toStr at hb
 obtain⟨x,hx,rfl⟩:=List.mem_map.1 hb
 have h1:=key x hx
 have h2:=Lib.encodeRuneZ_byte r x hx
 simp;omega
theorem wA: ∀n:Fin 128,I6 (UInt8.ofNat n.val)=D9 (n.val:Int):=by decide+kernel
theorem wB{b:UInt8}(h:b.toNat<128):I6 b=D9 (b.toNat:Int):=by
 have:=wA ⟨b.toNat,h⟩
 simpa using this
theorem wC{b:UInt8}(h:128<=b.toNat):I6 b=[b]:=by
 unfold I6 G3
 rw[if_neg (by omega),if_neg (by omega),if_neg (by omega),if_neg (by omega),if_neg (by omega),if_neg (by omega),if_neg (by omega),if_neg (by omega)]
 simp only[toStr,List.map_cons,List.map_nil]
 rw[KI b _ U]
theorem wD{l:A1}(h: ∀b∈l,128<=b.toNat):l.flatMap I6=l:=by
 induction l with
 |nil=>rfl
 |cons a l ih=>rw[List.flatMap_cons,wC (h a (by simp)),ih (λ b hb=>h b (by simp[hb]))];rfl
theorem O0{α:Type}(s:List α)(i j:Int)(h0:0<=i)(h1:i<=j):A4 s i=Eng.sub s i j++A4 s j:=by
 unfold A4 Eng.sub
 have:s.drop j.toNat=(s.drop i.toNat).drop (j.toNat-i.toNat):=by rw[List.drop_drop];congr 1;omega
 rw[this,List.take_append_drop]
theorem j4{r:Int}(h:128<=r):D9 r=toStr (Lib.encodeRuneZ r):=by
 unfold D9
 rw[if_neg (by unfold JH;simp;omega),if_neg (by omega)];rfl
theorem j5{s:A1}{i:Int}(h0:0<=i)(h1:i<=len s)(h:GJ s i=true):FB s i=(A4 s i).flatMap I6:=by
 by_cases hlt:i<len s
 ·have hb:=L8 s i
  have hle:=rune_le s i hlt
  rcases MM h0 hlt with⟨h2,_⟩|⟨h2,h3,_,h5,h6,h7⟩
  ·rw[RE s i h0 hlt h2]at h;cases h
  ·rw[<-MI s i h0 hlt (by omega)]at h
   rw[PQ h0 hlt,h3,j5 (i:=i+rune s i) (by omega) (by omega) h,O0 s i (i+rune s i) h0 (by omega),List.flatMap_append]
   congr 1
   by_cases hc:A3 s i<128
   ·obtain⟨h8,h9⟩:=h6 hc
    obtain⟨b,hb1,hb2⟩:=IS s i h0 hlt
    rw[h8]
    have:Eng.sub s i (i+1)=[b]:=by
     have:=O0 s i (i+1) h0 (by omega)
     rw[hb1]at this
     exact(List.append_cancel_right (this.symm.trans (List.singleton_append).symm)).trans U
    rw[this,h9,hb2]
    simp only[List.flatMap_cons,List.flatMap_nil,List.append_nil]
    rw[wB (by omega)]
   ·rw[<-h5,wD (j3 (h7 (by omega))),j4 (h7 (by omega))]
 ·rw[UK hlt,OJ s i (by omega)];rfl
termination_by (len s-i).toNat
decreasing_by have:=L8 s i;omega
theorem a8{s:A1}(h:E6 s=true):A9 s=IU s:=by
 unfold A9 IU
 rw[j5 (by omega) (AA s) h];rfl
theorem wE(s:A1):len (s.flatMap I6)<=6*len s:=by
 induction s with
 |nil=>decide
 |cons a s ih=>
  have:=fL (a.toNat:Int)
  rw[List.flatMap_cons,A5,A7]
  unfold I6 at*;omega
theorem aA(s:A1):2<=len (IU s)/\len (IU s)<=6*len s+2:=by
 have:=wE s
 have h0:=AA (s.flatMap I6)
 unfold IU
 rw[A5,A7,A7,len_nil];omega
theorem aB(s:A1):0<=len (DE s)/\len (DE s)<=6*len s+2:=by
 have:=aA s
 have:=AA s
 unfold DE;split<;>omega
end Go.Eng
