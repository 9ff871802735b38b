/-
  Parts Kt Na Sm Ri JPBack, put together and made short by wip/py/merge.py (mini.py).
-/
import Derived.Test.YtmjpjbmeamnfpaaGreatDoorZc35
import Derived.Test.YtmjpjbmeamnfpaaGreatDoorZc29
import Derived.Test.YtmjpjbmeamnfpaaGreatDoorZc7
import Derived.Test.YtmjpjbmeamnfpaaGreatDoorZc31
import Derived.Test.YtmjpjbmeamnfpaaGreatDoorZc5
import Derived.JoinedCond
import Derived.Test.YtmjpjbmeamnfpaaGreatDoorZc0
set_option linter.unusedVariables false
set_option linter.unusedSimpArgs false
set_option maxRecDepth 100000
namespace Go.Proofs.YtmjpjbmeamnfpaaGreatDoor
open Go.Eng
abbrev R7(bx by' bz:Nat)(x y z:Value):List HO:=[.box bx [x] 23,.box by' [y] 3,.box bz [z] 26]
theorem AQ4{w0 wv:World}{M0 M:Mem}{Rs:List HO}(bx by' bz:Nat)(x y z:Value)(hS:St w0 M0 wv M (R7 bx by' bz x y z++Rs)):
   CallsD Tryz.prog 23 [.pointer (some ⟨bx,0,none⟩),.pointer (some ⟨by',0,none⟩),.pointer (some ⟨bz,0,none⟩)].toArray .returning wv (λ e u' w'=>e= .returned (.tuple #[])/\u'=(GI .returning).2/\ ∃M',St w0 M0 w' M' (R7 bx by' bz x y z++Rs)/\M.le M'):=by
 refine oH (Hr:=Rs) B3 Tryz.func23 U Tryz.ntmps23 U U U U (λ a w=>rfl) [] [(0,.box bx [.v x] 23),(1,.box by' [.v y] 3),(2,.box bz [.v z] 26)] (.v .nilIface) [.bx 0 bx 0,.bx 1 by' 0,.bx 2 bz 0] U U hS AF (λ B hB=>?_) U
 refine CX (.tu [.ag [I 0,I 0],.v (.bool false)]) U (A0 U) (by omega) U (λ w M hX=>PV.AP3 (AT (v:=.v .nilIface) (E:=[]) U (A0 U)) Tryz.underlying56 Tryz.zeroValue56) ?_
 refine CY 3 U (A0 U) (by omega) Tryz.zeroValue56 U λ b3=>?_
 refine AE U (A0 U) (by omega) (λ hb1=>?_) (λ hb1=>?_)
 ·cases hb1
 ·exact oI hB U (A0 U) (by omega) λ w M' hX=>⟨M',hX.CR [0,1,2] U,hX.le⟩
theorem oJ{w0 wv:World}{M0 M:Mem}{Rs:List HO}(ec p:Int)(bx by' bz:Nat)(x y z:Value)(hS:St w0 M0 wv M (R7 bx by' bz x y z++Rs)):
   CallsD Tryz.prog 23 [.pointer (some ⟨bx,0,none⟩),.pointer (some ⟨by',0,none⟩),.pointer (some ⟨bz,0,none⟩)].toArray (.panicking [NS 56 ec p]) wv (λ e u' w'=>e= .returned (.tuple #[])/\u'=(GI (.panicking [NS 56 ec p])).2/\ ∃M',St w0 M0 w' M' (R7 bx by' bz (.slice none 0 0) (i64 p) (i64 ec)++Rs)/\M.le M'):=by
 refine oH (Hr:=Rs) B3 Tryz.func23 U Tryz.ntmps23 U U U U (λ a w=>rfl) [] [(0,.box bx [.v x] 23),(1,.box by' [.v y] 3),(2,.box bz [.v z] 26)] (.v (.iface 56 (.agg #[i64 ec,i64 p]))) [.bx 0 bx 0,.bx 1 by' 0,.bx 2 bz 0] U U hS AF (λ B hB=>?_) U
 refine CX (.tu [.ag [I ec,I p],.v (.bool true)]) U (A0 U) (by omega) U (λ w M hX=>PV.AP2 (v:=.agg #[i64 ec,i64 p]) (AT (v:=.v (.iface 56 (.agg #[i64 ec,i64 p]))) (E:=[]) U (A0 U)) Tryz.underlying56) ?_
 refine CY 3 U (A0 U) (by omega) Tryz.zeroValue56 U λ b3=>?_
 refine AE U (A0 U) (by omega) (λ hb1=>?_) (λ hb1=>?_)
 ·refine N2 [4,5,6] 4 (λ _ _ _ _ _ h=>h) U (A0 U) (by omega) IA (by decide+kernel) ?_
  refine E8 4 U (A0 U) (by omega) U U ?_
  refine DB U (A0 U) (by omega) ?_
  refine E8 5 U (A0 U) (by omega) U U ?_
  refine DB U (A0 U) (by omega) ?_
  refine E8 6 U (A0 U) (by omega) U U ?_
  refine DB U (A0 U) (by omega) ?_
  refine KP U (A0 U) (by omega) U U ?_
  exact oI hB U (A0 U) (by omega) λ w M' hX=>⟨M',hX.CR [0,1,2] U,hX.le⟩
 ·cases hb1
abbrev AQ5(w:World)(M:Mem)(r:Fl×Int×Int):Ending->World->Prop:=QA w M (λ h:AJ=>.tuple #[h.v,i64 r.2.1,i64 r.2.2]) (λ _=>True) λ h=>[(0,BD h.v r.1)]
theorem XA(s:A1)(w:World)(M:Mem)(hM:Sat w M)(hg:Gl w)(hb:len s<=100000):
    Calls Tryz.prog 11 [str s].toArray w (AQ5 w M (J2 A9 s)):=by
 refine AP8 (Hr:=[]) B3 Tryz.func11 U Tryz.ntmps11 [] [] [.v (str s)] U (St.start hM) AF (λ B hB=>?_) U
 refine CY 0 U (A0 U) (by omega) Tryz.zeroValue23 U λ bx=>?_
 refine CY 1 U (A0 U) (by omega) Tryz.zeroValue3 U λ by'=>?_
 refine CY 2 U (A0 U) (by omega) Tryz.zeroValue26 U λ bz=>?_
 refine J5 (λ u:Value=>.tu [.sl 3 u,I (CF s).2.1,I (CF s).2.2]) [3] (Fg:=λ u=>[(0,kn u 9 (CF s).1 Tk.cells)]) (pu:=λ _=>True) U (A0 U) (by omega) U Tryz.call22 U U (A0 U) (λ w M hX=>(yE M s w hX.st.sat (hg.low hX.st.low) (by omega)).mono λ e w' ⟨v,M',he,⟨u,hv,hsl⟩,hgr⟩=>⟨u,M',by rw[he,hv];rfl,trivial,hgr,fc 0 hsl (λ _=>rfl) AF⟩) (λ _=>rfl) λ v _=>?_
 refine AE U (A0 U) (by omega) (λ hb1=>?_) (λ hb1=>?_)<;>simp only[zb]at hb1
 ·have e:J2 A9 s=([],(CF s).2.1,(CF s).2.2):=by unfold J2;rw[if_pos hb1]
  rw[e]at hB
  refine N2 [2,3,4] 4 (λ _ _ _ _ _ h=>h) U (A0 U) (by omega) IA (by decide+kernel) ?_
  refine E8 2 U (A0 U) (by omega) U U ?_
  refine DB U (A0 U) (by omega) ?_
  refine E8 3 U (A0 U) (by omega) U U ?_
  refine DB U (A0 U) (by omega) ?_
  refine E8 4 U (A0 U) (by omega) U U ?_
  refine DB U (A0 U) (by omega) ?_
  refine KP U (A0 U) (by omega) U U ?_
  exact AD hB.ends U U (A0 U) (by omega) U (A0 U) λ w M' hX=>⟨⟨none,0,0⟩,M',rfl,trivial,(hX.CR [] U).done,CA ⟨Sl.nil M' 11,Tm.BI,trivial⟩ AF⟩
 have hlx:(CF s).2.2=0:=by omega
 have ok:=AQ3 hb hlx
 have hl1:0<len (CF s).1:=by
  obtain⟨l,_,h2⟩:=kZ hlx
  rw[h2];dsimp only;rw[A5];have:=AA l;show 0<_+(1:Int);omega
 have ep:J2 A9 s=RZ A9 (CF s).1:=by unfold J2;rw[if_neg (λ q=>q hlx)]
 rw[ep]at hB
 unfold RZ at hB
 refine CX (.v (.func (.func 23) #[] #[.pointer (some ⟨bx,0,none⟩),.pointer (some ⟨by',0,none⟩),.pointer (some ⟨bz,0,none⟩)])) U (A0 U) (by omega) U (λ w M hX=>PV.makeFunc (xs:=[]) (ys:=[.tmp 2,.tmp 3,.tmp 4]) (vs:=[]) (us:=[.pointer (some ⟨bx,0,none⟩),.pointer (some ⟨by',0,none⟩),.pointer (some ⟨bz,0,none⟩)]) trivial ⟨AT (v:=.bx 0 bx 0) (E:=[]) U (A0 U),AT (v:=.bx 1 by' 0) (E:=[]) U (A0 U),AT (v:=.bx 2 bz 0) (E:=[]) U (A0 U),trivial⟩) ?_
 refine AP9 (λ _ _ _ _ h=>h) (λ _ _ _ _ _ h=>h) U (A0 U) (by omega) U (A0 U) U ?_
 refine JU 4 U (A0 U) (by omega) U U (A0 U) λ b4=>?_
 cases hr:EM A9 (8*(CF s).1.length+8) (CF s).1 0 0 with
 |er ec p=>
  rw[hr]at hB
  refine BK [4] U (A0 U) (by omega) U Tryz.call24 U (A0 U) U (λ w M hS hF=>(oF _).fil hr ⟨hS,(hF.get (k:=3) U).sl,hg,ok,by omega,hl1⟩ (by omega) (by omega) (by unfold len;omega) trivial) λ a w M hs hS hle=>BC _ (hB.oG hs ?_)
  have hS2:St _ _ w M (R7 bx by' bz (.slice none 0 0) (i64 (CF s).2.1) (i64 (CF s).2.2)++[]):=hS.perm (List.reverse_perm [_,_,_])
  refine cX Tryz.call23 (λ h=>by cases h) rfl (oJ ec p bx by' bz _ _ _ hS2) λ w' ⟨M',hS',hle'⟩=>⟨_,cZ B3 (H:=[(0,.box bx [.v (.slice none 0 0)] 23),(1,.box by' [I p] 3),(2,.box bz [I ec] 26)]) (Hr:=[]) hS' hs rfl rfl (A0 rfl),?_⟩
  exact⟨⟨none,0,0⟩,M',rfl,trivial,(hS'.drop [] (List.nil_sublist _)).done,CA ⟨Sl.nil M' 11,Tm.BI,trivial⟩ AF⟩
 |ok x j=>
  have g:=(EY ok A9 _).fil 0 0 x j (by omega) hl1 hr
  have hlt:=g.lt
  have hle:=g.le
  have hfew:=ok.E9
  rw[hr]at hB
  dsimp only at hB
  refine AU [4] (λ h:AJ=>.sl 5 h.v) [] (λ h=>[(4,AW b4 v j 0),(5,B6 h.v x.flat)]) U (A0 U) (by omega) U Tryz.call24 U U (A0 U) U (λ w M hS hF=>(oF _).fil hr ⟨hS,(hF.get (k:=3) U).sl,hg,ok,by omega,hl1⟩ (by omega) (by omega) (by unfold len;omega) trivial) (λ _=>rfl) (λ _=>rfl) λ h5 _=>?_
  refine EW 5 U ?_
  refine DY [4] (FO (A2 (CF s).1 j)) U (A0 U) (by omega) Tryz.call25 U U (A0 U) U (λ _ w M hS hF=>G9 hS (hF.get (k:=3) U).sl (by omega) hle) U ?_
  refine AE U (A0 U) (by omega) (λ hb2=>?_) (λ hb2=>?_)<;>simp only[zb]at hb2
  ·rw[if_neg hb2]at hB
   refine BK [4] U (A0 U) (by omega) U Tryz.call26 U (A0 U) U (λ w M hS hF=>JW 1 hS (hF.get (k:=3) U).sl (by omega) hle) λ a w M hs hS hle=>BC _ (hB.oG hs ?_)
   have hS2:St _ _ w M (R7 bx by' bz h5.v (i64 (CF s).2.1) (i64 (CF s).2.2)++[]):=hS.perm (List.reverse_perm [_,_,_])
   refine cX Tryz.call23 (λ h=>by cases h) rfl (oJ 1 (A2 (CF s).1 j).pos bx by' bz _ _ _ hS2) λ w' ⟨M',hS',hle'⟩=>⟨_,cZ B3 (H:=[(0,.box bx [.v (.slice none 0 0)] 23),(1,.box by' [I (A2 (CF s).1 j).pos] 3),(2,.box bz [I 1] 26)]) (Hr:=[]) hS' hs rfl rfl (A0 rfl),?_⟩
   exact⟨⟨none,0,0⟩,M',rfl,trivial,(hS'.drop [] (List.nil_sublist _)).done,CA ⟨Sl.nil M' 11,Tm.BI,trivial⟩ AF⟩
  ·rw[if_pos (by omega)]at hB
   refine AQ0 hB rfl (A0 rfl) (by omega) λ a w M hs hX=>cX Tryz.call23 (λ h=>by cases h) rfl (AQ4 bx by' bz _ _ _ (hX.CR [0,1,2] rfl)) λ w' ⟨M',hS',hle'⟩=>⟨_,cZ B3 (H:=[(0,.box bx [.sl 5 h5.v] 23),(1,.box by' [I 0] 3),(2,.box bz [I 0] 26)]) (Hr:=[]) hS' hs rfl rfl (A0 rfl),?_⟩
   exact⟨h5,M',rfl,trivial,(hS'.drop [] (List.nil_sublist _)).done,CA ((hX.f.get (k:=5) U).mono hle') AF⟩
end Go.Proofs.YtmjpjbmeamnfpaaGreatDoor
set_option maxRecDepth 100000
namespace Go.Proofs.YtmjpjbmeamnfpaaGreatDoor
open Go.Eng
theorem AQ6{a b:List Ck}(ha:AG a)(hb:AG b):AG (a++b):=λ c hc=>(List.mem_append.1 hc).elim (ha c) (hb c)
theorem AQ7{x y:Bool}(h:x=true->y=true):AG [.b x y]:=λ c hc=>by rw[List.mem_singleton.1 hc];exact h
abbrev XB(t:Tm):XV:=.ag [I t.op,I t.many,.v (str t.name),.v (str t.s),I t.n,I t.c.kind,I t.c.many,.v (str t.c.name),.v (str t.c.s),.v (.bool t.c.neg),I t.c.e]
abbrev oK:A1:=[46,97,91,49,58,93]
abbrev TX:A1:=[109,97,112,40,115,101,108,101,99,116,40,46,97,32,61,61,32,49,32,97,110,100,32,40,46,98,32,60,32,50,32,124,32,110,111,116,41,41,32,124,32,123,120,58,32,46,99,44,32,34,121,32,122,34,58,32,40,46,100,32,124,32,46,101,41,125,41]
abbrev oL:A1:=[46,97,32,124,32,93]
theorem AQ8:J2 A9 oK=([{ AH 4 with many:=2},{ AH 1 with s:=[97]},{ AH 3 with n:=1}],0,0):=by decide+kernel
theorem AQ9:(J2 A9 TX).2.2=0/\len (J2 A9 TX).1=12:=by decide+kernel
theorem AR0:J2 A9 oL=([],5,1):=by decide+kernel
theorem oM(w:World)(hg:Gl w):
   Calls Tryz.prog 10 [].toArray w λ e w'=>e= .returned (.bool true)/\Ext w w':=by
 refine B8 B3 Tryz.func10 U Tryz.ntmps10 [] [] [] U (H3 w) AF (λ B hB=>?_) U
 refine J5 (λ h:AJ=>.tu [.sl 1 h.v,I 0,I 0]) [1] U (A0 U) (by omega) U Tryz.call11 U U (A0 U) (λ w M hX=>by have:=XA oK w M hX.st.sat (hg.low hX.st.low) (by decide);rw[AQ8]at this;exact this) (λ _=>rfl) λ h1 _=>?_
 refine J5 (λ h:AJ=>.tu [.sl 2 h.v,I (J2 A9 TX).2.1,I (J2 A9 TX).2.2]) [2] U (A0 U) (by omega) U Tryz.call11 U U (A0 U) (λ w M hX=>XA TX w M hX.st.sat (hg.low hX.st.low) (by decide)) (λ _=>rfl) λ h2 _=>?_
 refine J5 (λ h:AJ=>.tu [.sl 3 h.v,I 5,I 1]) [3] U (A0 U) (by omega) U Tryz.call11 U U (A0 U) (λ w M hX=>by have:=XA oL w M hX.st.sat (hg.low hX.st.low) (by decide);rw[AR0]at this;exact this) (λ _=>rfl) λ h3 _=>?_
 have⟨e1,e2⟩:=AQ9
 refine CX (.v (.bool (decide ({ AH 3 with n:=1}=({ AH 3 with n:=1}:Tm))))) U ?_ ?_ U (λ w M hX=>PV.bin (AT (v:=XB { AH 3 with n:=1}) U (A0 U)) (AT (v:=XB { AH 3 with n:=1}) U (A0 U)) (λ _ w _=>MP _ _ _ _ w)) ?_
 ·repeat' first|exact A0 U|exact AQ7 (λ _=>rfl)|apply AQ6
 ·decide
 refine AD hB U U (A0 U) (by omega) U (A0 U) λ w M hX=>⟨?_,hX.st.low⟩
 show Ending.returned (.bool _)=_
 rw[e1,e2];rfl
end Go.Proofs.YtmjpjbmeamnfpaaGreatDoor
set_option maxRecDepth 100000
namespace Go.Proofs.YtmjpjbmeamnfpaaGreatDoor
open Go.Eng
theorem RP{α:Type}[Inhabited α](a:List α){k:Int}(h0:0<=k)(h1:k<len a):Eng.sub a 0 (k+1)=Eng.sub a 0 k++[A2 a k]:=sub_succ a k h0 h1
theorem AR1(M:Mem)(a b:Fl)(va vb:Value)(w:World)(hM:Sat w M)(ha:Sl M 11 a.length va (a.flatMap Tm.cells))(hb:Sl M 11 b.length vb (b.flatMap Tm.cells)):
    Calls Tryz.prog 13 [va,vb].toArray w λ e w'=>e= .returned (.bool (decide (a=b)))/\Ext w w':=by
 have hla:len a<=9223372036854775807:=ha.le
 refine B8 (Hr:=[]) B3 Tryz.func13 U Tryz.ntmps13 [(0,BD va a),(1,BD vb b)] [] [.sl 0 va,.sl 1 vb] U (St.start hM) (fc 0 ha Tm.BI (fc 1 hb Tm.BI AF)) (λ B hB=>?_) U
 refine AE U (A0 U) (by omega) (λ hb1=>?_) (λ hb1=>?_)<;>simp only[zb]at hb1
 ·exact AD hB U U (A0 U) (by omega) U (A0 U) λ w M hX=>⟨by rw[decide_eq_false (λ e=>hb1 (by rw[e]))];rfl,hX.st.low⟩
 refine DI (λ k:Int=>⟨[(0,BD va a),(1,BD vb b)],[],[Z 0 (.sl 0 va),Z 1 (.sl 1 vb),Z 5 (I k)]⟩) (λ k=>0<=k/\k<=len a/\Eng.sub a 0 k=Eng.sub b 0 k) (λ k=>(len a-k).toNat) 0 U (A0 U) (by omega) U ⟨by omega,by have:=AA a;omega,rfl⟩ ?_
 rintro k ⟨hk0,hk1,hke⟩
 refine AE U (A0 U) (by omega) (λ hb2=>?_) (λ hb2=>?_)<;>simp only[zb]at hb2
 ·have hkb:k<len b:=by omega
  refine N2 [8] 2 (λ _ _ _ _ _ h=>h) U (A0 U) (by omega) IA (by decide+kernel) ?_
  refine E8 8 U (A0 U) (by omega) U U ?_
  refine CX (.v (.bool (!decide (A2 a k=A2 b k)))) U (A0 U) (by omega) U (λ w M hX=>PV.bin (AT (v:=XB (A2 a k)) U (A0 U)) (AT (v:=XB (A2 b k)) U (A0 U)) (λ _ w _=>sT _ _ _ _ w)) ?_
  refine DB U (A0 U) (by omega) ?_
  refine KP U (A0 U) (by omega) U U ?_
  refine AE U (A0 U) (by omega) (λ hb3=>?_) (λ hb3=>?_)
  ·have hne: ¬A2 a k=A2 b k:=by simpa[zb]using hb3
   exact AD hB U U (A0 U) (by omega) U (A0 U) λ w M hX=>⟨by rw[decide_eq_false (λ e=>hne (by rw[e]))];rfl,hX.st.low⟩
  ·have heq:A2 a k=A2 b k:=by simpa[zb]using hb3
   exact CS (k+1) U (A0 U) (by omega) U ⟨by omega,by omega,by rw[RP a hk0 hb2,RP b hk0 hkb,hke,heq]⟩ (by show Int.toNat _<Int.toNat _;omega)
 ·have hab:a=b:=by rw[IP a k (by omega),IP b k (by omega)]at hke;exact hke
  exact AD hB U U (A0 U) (by omega) U (A0 U) λ w M hX=>⟨by rw[decide_eq_true hab];rfl,hX.st.low⟩
theorem AR2{x y:Fl}(h:x=y)(M:Mem)(va vb:Value)(w:World)(hM:Sat w M)(ha:Sl M 11 x.length va (x.flatMap Tm.cells))(hb:Sl M 11 y.length vb (y.flatMap Tm.cells)):
  Calls Tryz.prog 13 [va,vb].toArray w λ e w'=>e= .returned (.bool true)/\Ext w w':=
 (AR1 M x y va vb w hM ha hb).mono λ e w' q=>by rw[decide_eq_true h]at q;exact q
end Go.Proofs.YtmjpjbmeamnfpaaGreatDoor
set_option maxRecDepth 100000
namespace Go.Proofs.YtmjpjbmeamnfpaaGreatDoor
open Go.Eng
theorem AR3(M:Mem)(f:Fl)(v:Value)(w:World)(hM:Sat w M)(hv:Sl M 11 f.length v (f.flatMap Tm.cells))(hg:Gl w):
   Calls Tryz.prog 3 [v].toArray w λ e w'=>e= .returned (.bool true)/\Ext w w':=by
 refine B8 (Hr:=[]) B3 Tryz.func3 U Tryz.ntmps3 [(0,BD v f)] [] [.sl 0 v] U (St.start hM) (fc 0 hv Tm.BI AF) (λ B hB=>?_) U
 refine B7 U (A0 U) (by omega) Tryz.call9 U U (A0 U) (λ _ w M hX=>AE7 f v 30 M w hX.st.sat (hX.sl 0 U) (by omega)) U ?_
 refine AE U (A0 U) (by omega) (λ h1=>?_) (λ h1=>?_)
 ·refine B7 U (A0 U) (by omega) Tryz.call10 U U (A0 U) (λ _ w M hX=>oM w (hg.low hX.st.low)) U ?_
  exact AD hB U U (A0 U) (by omega) U (A0 U) λ w M hX=>⟨rfl,hX.st.low⟩
 obtain⟨x,hgx,hfx,hnx,hcx,hlx,hsx⟩:=AD7 (by simpa using h1)
 have hsz:x.size<=30:=by rw[hfx]at hlx;unfold len at hlx;rw[Tf.E5]at hlx;omega
 have hsh:L1 x.flat:=by rw[<-hfx];exact hsx
 have hlen:=nD x.size x (Nat.le_refl _) hgx hsh
 unfold IL at hlen
 have hback:=AJ6 hgx hcx hnx (by omega)
 refine B7 U (A0 U) (by omega) Tryz.call12 U U (A0 U) (λ _ w M hX=>AM3 x.size x (Nat.le_refl _) hgx hsh (by rw[<-hfx];omega) v w M hX.st.sat (by rw[<-hfx];exact hX.sl 0 U)) U ?_
 refine J5 (λ h:AJ=>.tu [.sl 3 h.v,I 0,I 0]) [3] U (A0 U) (by omega) U Tryz.call11 U U (A0 U) (λ w M hX=>by have:=XA (B4 x) w M hX.st.sat (hg.low hX.st.low) (by omega);rw[hback]at this;exact this) (λ _=>rfl) λ h3 _=>?_
 refine B7 U (A0 U) (by omega) Tryz.call10 U U (A0 U) (λ _ w M hX=>oM w (hg.low hX.st.low)) U ?_
 refine B7 U (A0 U) (by omega) Tryz.call13 U U (A0 U) (λ _ w M hX=>AR2 hfx.symm M h3.v v w hX.st.sat (hX.sl 3 U) (hX.sl 0 U)) U ?_
 exact AD hB U U (A0 U) (by omega) U (A0 U) λ w M hX=>⟨rfl,hX.st.low⟩
end Go.Proofs.YtmjpjbmeamnfpaaGreatDoor
set_option maxRecDepth 100000
namespace Go.Proofs.YtmjpjbmeamnfpaaGreatDoor.parseBack
open Go.ChangeShapes Go.WideShapes Go.ChangeAt Go.RowKit Go.Eng
noncomputable abbrev jP:=Tryz.prog
noncomputable abbrev jf:FuncId:=3
noncomputable abbrev GS:=Tryz.f3
noncomputable abbrev js:=Rows.parseBackSpec
noncomputable abbrev jc:=Rows.parseBackRow
theorem jk0:jc.wf (OpenSpec.ofChange js)=true:=by kernel_rfl
theorem jk1:laidOutB jP=true:=by kernel_rfl
theorem jk2:mapsRowed jP=true:=by kernel_rfl
theorem jk3:GS.params.all (jP.readableRec ·)=true:=by kernel_rfl
theorem jk4:namedTie jP jc.named js.vars=true:=by kernel_rfl
theorem jk5:(jc.stops==[])=true:=by kernel_rfl
theorem jk6:(jP.stops==[])=true:=by kernel_rfl
theorem jk7:(jc.knobs==[])=true:=by kernel_rfl
theorem jk8:(jP.stopKnobs==[])=true:=by kernel_rfl
theorem jk9:(jc.inPlace==jP.inPlace jf)=true:=by kernel_rfl
theorem AS4:(jc.unfollowed==jP.unfollowed jf)=true:=by kernel_rfl
theorem AS5:(jc.recurses==jP.recurses jf)=true:=by kernel_rfl
theorem AS6:(jc.named==jP.varsNamed jf)=true:=by kernel_rfl
theorem AS7:(jc.maps==(GS.params.toList++js.plain.varTypes jP).any (jP.mapsRec ·))=true:=by kernel_rfl
theorem AS8:(jc.ifaces==(GS.params.toList++js.plain.varTypes jP).any (jP.ifacesRec ·))=true:=by kernel_rfl
theorem AS9:(jc.mapsOut==jP.mapsAmong GS.resultTypes.toList)=true:=by kernel_rfl
theorem AT0:(jc.loops==(GS.params.toList++js.plain.varTypes jP).any (jP.loopsFrom ·))=true:=by kernel_rfl
theorem AT1:(jc.wideKeys==(GS.params.toList++js.plain.varTypes jP++GS.resultTypes.toList).any (jP.wideKeysFrom ·))=true:=by kernel_rfl
theorem AT2:js.vars.all (jP.varReadable ·)=true:=by kernel_rfl
theorem AT3:GS.resultTypes.all (λ t=>jP.readableRec t&&decide (t<jP.types.size))=true:=by kernel_rfl
theorem AT4:(jc.ifacesOut==GS.resultTypes.toList.any (jP.ifacesRec ·))=true:=by kernel_rfl
theorem AT5:(jc.loopsOut==GS.resultTypes.toList.any (jP.loopsFrom ·))=true:=by kernel_rfl
theorem AT6:(jc.plainKeys==jP.plainKeys)=true:=by kernel_rfl
theorem AT7:jc.shortTexts.isNone=true:=by kernel_rfl
theorem AT8:jP.stopsHeard=true:=by kernel_rfl
theorem AT9:jP.mayEnter=true:=by kernel_rfl
theorem AU0:(jc.lifted==jP.liftsFinal)=true:=by kernel_rfl
theorem AU1:(jP.make==some jc.make)=true:=by kernel_rfl
theorem AU2:(jc.kinds==(if jc.domain.isEmpty then []else GS.params.toList.map λ t=>match jP.underlying t with|some (.int k)=>some k|_=>none))=true:=by kernel_rfl
theorem AU3:(jc.pinned==jc.pinnedBy)=true:=by kernel_rfl
theorem AU4:(jc.veiled==(GS.params.toList++js.plain.varTypes jP++GS.resultTypes.toList).any (jP.veiledRec ·))=true:=by kernel_rfl
theorem AU5:jc.veiledFits jP GS.params.toList (GS.params.toList++js.plain.varTypes jP++GS.resultTypes.toList)=true:=by kernel_rfl
theorem DN{a b:Bool}(h:a=true)(h2:b=true):(a&&b)=true:=by rw[h,h2];rfl
theorem AU6:joinedFacts jP jf GS js jc=true:=(DN (DN (DN (DN (DN (DN (DN (DN (DN (DN (DN (DN (DN (DN (DN (DN (DN (DN (DN (DN (DN (DN (DN (DN (DN (DN (DN (DN (DN (DN (DN jk0 jk1) jk2) jk3) jk4) jk5) jk6) jk7) jk8) jk9) AS4) AS5) AS6) AS7) AS8) AS9) AT0) AT1) AT2) AT3) AT4) AT5) AT6) AT7) AT8) AT9) AU0) AU1) AU2) AU3) AU4) AU5)
end Go.Proofs.YtmjpjbmeamnfpaaGreatDoor.parseBack
