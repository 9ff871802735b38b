/-
  Parts L5 Kp Kf Ic Id Ie Iq If, put together and made short by wip/py/merge.py (mini.py).
-/
import Derived.Test.YtmjpjbmeamnfpaaGreatDoorZe4
import Derived.Laws.BitsLemmas
import Derived.Test.YtmjpjbmeamnfpaaGreatDoorZe3
import Derived.Test.YtmjpjbmeamnfpaaGreatDoorProg
import Derived.Test.YtmjpjbmeamnfpaaGreatDoorZe19
import Derived.Test.YtmjpjbmeamnfpaaGreatDoorZe12
import Derived.Test.YtmjpjbmeamnfpaaGreatDoorZe10
import Derived.Test.YtmjpjbmeamnfpaaGreatDoorZe17
import Derived.Test.YtmjpjbmeamnfpaaGreatDoorZe13
import Derived.Test.YtmjpjbmeamnfpaaGreatDoorZe11
import Derived.Test.YtmjpjbmeamnfpaaGreatDoorZe1
import Derived.Test.YtmjpjbmeamnfpaaGreatDoorZe0
set_option linter.unusedVariables false
set_option linter.unusedSimpArgs false
set_option maxRecDepth 100000
namespace Go.Proofs.YtmjpjbmeamnfpaaGreatDoor
open Go.Eng
theorem vX(M:Mem)(s:A1)(w:World)(hM:Sat w M)(hg:Gl w)(hb:len s<=1099511627776):
  Calls Tryz.prog 22 [(str s)].toArray w λ e w'=> ∃v M',e= .returned v/\(∃u,v= .tuple #[u,i64 (BB s).2.1,i64 (BB s).2.2]/\Sl M' 9 (BB s).1.length u ((BB s).1.flatMap Tk.cells))/\Grow w M w' M':=by
 refine CW.C4 Tryz.func22 U Tryz.ntmps22 (Nat.le_of_ble_eq_true U) λ Q hE=>?_
 have:=A8 s
 have hbt:=I6 s 0 (Int.le_refl 0) this
 have hS:St w M w M []:=St.start hM
 refine CW.weaken [0] (L':=[Y 0 (str s)]) ?_ U
 refine CW.sr ?_
 have hS1:=hS.IM 63 9
 replace hS1:St w M w M [.own 63 9 (.slice none 0 0) (([]:List Tk)).length ((([]:List Tk)).flatMap Tk.cells)]:=hS1
 refine RL.u (.assign .c) U (RL.u (.assign .c) U (RL.u (.assign .c) U (RL.nil (CW.id ?_))))
 refine CW.sr ?_
 refine RL.alloc hS1 Tryz.zeroValue104 U (λ w2 b3 hS4=>(RL.nil (CW.id ?_)))
 refine CW.sr ?_
 have hS5:=hS4.IM 63 9
 replace hS5:St w M w2 M [.own 63 9 (.slice none 0 0) (([]:List Tk)).length ((([]:List Tk)).flatMap Tk.cells),.box b3 [(.int .u32 0),(.int .i32 0),(.int .u32 0),(.map none)] 104,.own 63 9 (.slice none 0 0) (([]:List Tk)).length ((([]:List Tk)).flatMap Tk.cells)]:=hS5
 refine RL.u (.assign .c) U (RL.nil (CW.id ?_))
 refine CW.sr (RL.m U U ?_)
 refine RL.DZ hS5 .none Tryz.call47 (.cons (.t U) (.cons .c .nil)) (λ _=>(gX s _)) U (λ w6 hS7=>?_)
 refine RL.a U U ?_
 refine RL.nil (CW.at [Y 0 (str s),Y 5 (.pointer (some ⟨b3,0,none⟩)),Y 6 (.slice none 0 0),Y 7 (str (MV s))] U (CW.seq (CW.block ?_)))
 have hS8:=hS7.IM 9 1
 replace hS8:St w M w6 M [.own 9 1 (.slice none 0 0) (([]:List A1)).length ((([]:List A1)).flatMap AW),.own 63 9 (.slice none 0 0) (([]:List Tk)).length ((([]:List Tk)).flatMap Tk.cells),.box b3 [(.int .u32 0),(.int .i32 0),(.int .u32 0),(.map none)] 104,.own 63 9 (.slice none 0 0) (([]:List Tk)).length ((([]:List Tk)).flatMap Tk.cells)]:=hS8
 refine CW.loop (σ:=Nat×Int×A1×List Tk×Value×List Value×HO×Mem) (λ(f,i,r,acc,va,cs,X,Ml)=>[Y 0 (str s),Y 5 (.pointer (some ⟨b3,0,none⟩)),Y 6 va,Y 7 (str r)]) (λ(f,i,r,acc,va,cs,X,Ml) wl=>St w M wl Ml [X,.own 63 9 va acc.length (acc.flatMap Tk.cells),.box b3 cs 104,.own 63 9 (.slice none 0 0) (([]:List Tk)).length ((([]:List Tk)).flatMap Tk.cells)]/\0<=i/\i<=len s/\r=A3 s i/\HK f s i acc=BB s/\(len s-i).toNat<=f/\len acc<=i/\K1 Ml cs X) (λ(f,i,r,acc,va,cs,X,Ml)=>(len s-i).toNat) ((s.length,AV s 0,MV s,[],.slice none 0 0,[.int .u32 0,.int .i32 0,.int .u32 0,.map none],.own 9 1 (.slice none 0 0) 0 [],M)) [0,5,6,7] U ?_ ?_
 ·refine⟨hS8,?_⟩;exact⟨by omega,by omega,eP s 0 (Int.le_refl 0),rfl,by unfold len;omega,by rw[len_nil];omega,.inl ⟨rfl,rfl⟩⟩
 ·rintro⟨f,i,r,acc,va,cs,X,Ml⟩ wl ⟨hS9,h0,h1,hr,hF,hf,hacc,hmk⟩
  have hl:=CN s i h0 h1
  have hlr:len r=len s-i:=by rw[hr];exact hl
  have hat:len s-len r=i:=by omega
  have hdr: ∀n,0<=n->MV (A3 r n)=A3 s (AV s (i+n)):=λ n hn=>by rw[hr,MT s i n h0 hn,eP _ _ (by omega)]
  refine CW.seq (CW.sr (RL.m U U (RL.u (.M6 (.t U) .c) U (RL.nil (CW.id ?_)))))
  refine CW.cond rfl ?_ ?_<;>intro hb1<;>try simp only[zb]at hb1
  ·have hlt:i<len s:=by have:=JG hb1;omega
   have htb:=fW (s:=r) (by omega)
   refine CW.skip (CW.id (CW.block (CW.sr (RL.m U U (RL.u (.DD (.t U) Tryz.underlying9) U (RL.m U U (RL.u (.DD (.t U) Tryz.underlying9) U (RL.u (.sub (.t U) (.t U) (λ _=>by omega)) U (RL.a U U (RL.nil (CW.id ?_)))))))))))
   refine CW.sr (RL.m U U ?_)
   replace hS9:St w M wl Ml [.box b3 cs 104,X,.own 63 9 va acc.length (acc.flatMap Tk.cells),.own 63 9 (.slice none 0 0) (([]:List Tk)).length ((([]:List Tk)).flatMap Tk.cells)]:=(hS9.front 0 U U).front 2 U U
   refine RL.CU Tryz.call48 (.cons (.t U) (.cons (.t U) .nil)) (vW (Rs:=[.own 63 9 va acc.length (acc.flatMap Tk.cells),.own 63 9 (.slice none 0 0) (([]:List Tk)).length ((([]:List Tk)).flatMap Tk.cells)]) b3 cs X r hS9 (by assumption) hg (by omega) (by omega)) U ?_
   rintro v13 w14 ⟨cs10,X11,M15,rfl,hm12,hS16,hle17⟩
   replace hS16:St w M w14 M15 [.box b3 cs10 104,X11,.own 63 9 va acc.length (acc.flatMap Tk.cells),.own 63 9 (.slice none 0 0) (([]:List Tk)).length ((([]:List Tk)).flatMap Tk.cells)]:=hS16
   refine RL.m U U (RL.u (.ex (.t U) U) U (RL.u (.ex (.t U) U) U (RL.u (.ex (.t U) U) U ?_)))
   refine RL.alloc hS16 Tryz.zeroValue63 U (λ w18 b19 hS20=>?_)
   refine RL.st hS20 (i:=0) U (.t U) (.t U) Tryz.sizeOf63 U U U U U (λ w21 hS22=>?_)
   refine RL.a U U (RL.a U U ?_)
   refine RL.nil (CW.at [Y 0 (str s),Y 5 (.pointer (some ⟨b3,0,none⟩)),Y 6 va,Y 7 (str r),Y 8 (i64 ((len s)-(len r))),Y 9 (.pointer (some ⟨b19,0,none⟩)),Y 10 (i64 ((A7 r).2.1)),Y 11 (i64 ((A7 r).2.2))] U (CW.seq (CW.sr (RL.m U U (RL.u (.neq (.t U) .c) U (RL.nil (CW.id ?_)))))))
   refine CW.cond rfl ?_ ?_<;>intro hb2<;>try simp only[zb]at hb2
   ·refine CW.sr (RL.m U U (RL.m U U (RL.u (.add (.t U) (.t U) (λ _=>by omega)) U (RL.m U U ?_))))
    have hS23:=hS22.IM 63 9
    replace hS23:St w M w21 M15 [.own 63 9 (.slice none 0 0) (([]:List Tk)).length ((([]:List Tk)).flatMap Tk.cells),.box b19 (nK ((A7 r).1) []) 63,.box b3 cs10 104,X11,.own 63 9 va acc.length (acc.flatMap Tk.cells),.own 63 9 (.slice none 0 0) (([]:List Tk)).length ((([]:List Tk)).flatMap Tk.cells)]:=hS23
    refine RL.u (.assign .c) U (RL.a U U (RL.a U U (RL.nil (CW.id ?_))))
    refine CW.ret (hE.r3 U U U U ?_)
    have hq:BB s=([],len s-len r+(A7 r).2.1,(A7 r).2.2):=by rw[<-hF,OK hf hlt,<-hr,if_pos (by simpa using hb2),hat]
    exact⟨_,_,rfl,⟨_,by rw[hq],by rw[hq];exact Sl.nil _ 9⟩,hS23.done⟩
   ·have hn1:=htb.2.2.1 hb2
    have hbb:=I6 s (i+(A7 r).2.1) (by omega) (by omega)
    refine CW.skip (CW.id (CW.sr (RL.m U U (RL.u (.FQ (q:=⟨b19,8,none⟩) (.t U) (λ w=>by kernel_rfl)) U ?_))))
    refine RL.st hS22 (i:=0) U (.t U) (.t U) Tryz.sizeOf3 U U U U U (λ w24 hS25=>(RL.nil (CW.id ?_)))
    refine CW.sr (RL.m U U (RL.u (.SK (vs:=((i64 (((A7 r).1).kind))::((str (((A7 r).1).s))::(L5 (((A7 r).1).c) ((i64 ((len s)-(len r)))::[]))))) hS25 BG (i:=0) U (.t U) Tryz.isAgg63 Tryz.sizeOf63 U U) U ?_))
    refine RL.buildSlice (n:=1) (sz:=9) (e:=63) (vs:=[(0,(.agg ⟨((i64 (((A7 r).1).kind))::((str (((A7 r).1).s))::(L5 (((A7 r).1).c) ((i64 ((len s)-(len r)))::[]))))⟩))]) (cs:=[(i64 (((A7 r).1).kind)),(str (((A7 r).1).s)),(i64 (((A7 r).1).c.kind)),(i64 (((A7 r).1).c.many)),(str (((A7 r).1).c.name)),(str (((A7 r).1).c.s)),(.bool (((A7 r).1).c.neg)),(i64 (((A7 r).1).c.e)),(i64 ((len s)-(len r)))]) hS25 (.cons (.t U) .nil) U U (λ w=>by kernel_rfl) U (λ v26 w27 M28 hS29 hle30=>?_)
    replace hS29:St w M w27 M28 [.own 63 9 v26 (([(⟨((A7 r).1).kind,((A7 r).1).s,((A7 r).1).c,(len s)-(len r)⟩:Tk)]:List Tk)).length ((([(⟨((A7 r).1).kind,((A7 r).1).s,((A7 r).1).c,(len s)-(len r)⟩:Tk)]:List Tk)).flatMap Tk.cells),.box b19 ((i64 (((A7 r).1).kind))::((str (((A7 r).1).s))::(L5 (((A7 r).1).c) ((i64 ((len s)-(len r)))::[])))) 63,.box b3 cs10 104,X11,.own 63 9 va acc.length (acc.flatMap Tk.cells),.own 63 9 (.slice none 0 0) (([]:List Tk)).length ((([]:List Tk)).flatMap Tk.cells)]:=hS29
    refine RL.PS (f:=Tk.cells) (l:=acc) (y:=(⟨((A7 r).1).kind,((A7 r).1).s,((A7 r).1).c,(len s)-(len r)⟩:Tk)) hS29 (k:=4) U (.t U) (.t U) (hS29.sl (i:=0) U) Tryz.underlying52 Tryz.type63 U U U Tk.cells_one (by':=96) U U (by omega) U (Hs':=λ v'=>[.own 63 9 v26 (([(⟨((A7 r).1).kind,((A7 r).1).s,((A7 r).1).c,(len s)-(len r)⟩:Tk)]:List Tk)).length ((([(⟨((A7 r).1).kind,((A7 r).1).s,((A7 r).1).c,(len s)-(len r)⟩:Tk)]:List Tk)).flatMap Tk.cells),.box b19 ((i64 (((A7 r).1).kind))::((str (((A7 r).1).s))::(L5 (((A7 r).1).c) ((i64 ((len s)-(len r)))::[])))) 63,.box b3 cs10 104,X11,.own 63 9 v' (acc++[(⟨((A7 r).1).kind,((A7 r).1).s,((A7 r).1).c,(len s)-(len r)⟩:Tk)]).length ((acc++[(⟨((A7 r).1).kind,((A7 r).1).s,((A7 r).1).c,(len s)-(len r)⟩:Tk)]).flatMap Tk.cells),.own 63 9 (.slice none 0 0) (([]:List Tk)).length ((([]:List Tk)).flatMap Tk.cells)]) (λ _=>rfl) (λ v31 w32 M33 hS34 hle35=>?_)
    replace hS34:=hS34.erase 0 U
    refine RL.a U U (RL.nil (CW.id ?_))
    refine CW.region (RL.m U U (RL.m U U (RL.u (.JJ (.t U) (.t U) Tryz.underlying9 (λ _=>by omega)) U ?_)))
    refine RL.DZ hS34 .none Tryz.call47 (.cons (.t U) (.cons .c .nil)) (λ _=>(gX (Eng.A3 r ((A7 r).2.1)) _)) U (λ w36 hS37=>?_)
    refine RL.a U U ?_
    replace hS37:St w M w36 M33 [.own 63 9 (.slice none 0 0) (([]:List Tk)).length ((([]:List Tk)).flatMap Tk.cells),.box b3 cs10 104,X11,.own 63 9 v31 (acc++[(⟨((A7 r).1).kind,((A7 r).1).s,((A7 r).1).c,(len s)-(len r)⟩:Tk)]).length ((acc++[(⟨((A7 r).1).kind,((A7 r).1).s,((A7 r).1).c,(len s)-(len r)⟩:Tk)]).flatMap Tk.cells)]:=(hS37.erase 0 U).front 3 U U
    replace hS37:St w M w36 M33 [.own 63 9 v31 (acc++[(⟨((A7 r).1).kind,((A7 r).1).s,((A7 r).1).c,(len s)-(len r)⟩:Tk)]).length ((acc++[(⟨((A7 r).1).kind,((A7 r).1).s,((A7 r).1).c,(len s)-(len r)⟩:Tk)]).flatMap Tk.cells),.box b3 cs10 104,.own 63 9 (.slice none 0 0) (([]:List Tk)).length ((([]:List Tk)).flatMap Tk.cells),X11]:=(hS37.front 1 U U).front 3 U U
    replace hS37:St w M w36 M33 [X11,.own 63 9 v31 (acc++[(⟨((A7 r).1).kind,((A7 r).1).s,((A7 r).1).c,(len s)-(len r)⟩:Tk)]).length ((acc++[(⟨((A7 r).1).kind,((A7 r).1).s,((A7 r).1).c,(len s)-(len r)⟩:Tk)]).flatMap Tk.cells),.box b3 cs10 104,.own 63 9 (.slice none 0 0) (([]:List Tk)).length ((([]:List Tk)).flatMap Tk.cells)]:=hS37.front 3 U U
    refine RL.nil λ a hs=>Exists.intro ((f-1,AV s (i+(A7 r).2.1),MV (Eng.A3 r ((A7 r).2.1)),acc++[(⟨((A7 r).1).kind,((A7 r).1).s,((A7 r).1).c,(len s)-(len r)⟩:Tk)],v31,cs10,X11,M33)) ⟨hs.BL [0,5,6,7],?_,?_⟩
    ·refine⟨hS37,?_⟩
     exact⟨by omega,by omega,hdr _ (by omega),by rw[<-hF,OK hf hlt,<-hr,if_neg (by simpa using hb2),hat],by omega,by rw[AG,AK,len_nil];omega,K1.mono hm12 ((hle30.trans hle35))⟩
    ·show Int.toNat _<Int.toNat _;omega
  ·have hge: ¬i<len s:=by rw[hb1,len_nil]at hlr;omega
   refine CW.exit (CW.at [Y 0 (str s),Y 6 va] U ?_)
   refine CW.sr (RL.m U U (RL.m U U (RL.u (.DD (.t U) Tryz.underlying9) U (RL.u (.build (vs:=[(0,(i64 6)),(3,(i64 (len s)))]) (v:=(.agg #[(i64 6),(str []),(i64 0),(i64 0),(str []),(str []),(.bool false),(i64 0),(i64 (len s))])) (.cons .c (.cons (.t U) .nil)) (λ w=>by kernel_rfl)) U ?_))))
   refine RL.buildSlice (n:=1) (sz:=9) (e:=63) (vs:=[(0,(.agg #[(i64 6),(str []),(i64 0),(i64 0),(str []),(str []),(.bool false),(i64 0),(i64 (len s))]))]) (cs:=[(i64 6),(str []),(i64 0),(i64 0),(str []),(str []),(.bool false),(i64 0),(i64 (len s))]) hS9 (.cons (.t U) .nil) U U (λ w=>by kernel_rfl) U (λ v38 w39 M40 hS41 hle42=>?_)
   replace hS41:St w M w39 M40 [.own 63 9 v38 (([(⟨6,[],⟨0,0,[],[],false,0⟩,len s⟩:Tk)]:List Tk)).length ((([(⟨6,[],⟨0,0,[],[],false,0⟩,len s⟩:Tk)]:List Tk)).flatMap Tk.cells),X,.own 63 9 va acc.length (acc.flatMap Tk.cells),.box b3 cs 104,.own 63 9 (.slice none 0 0) (([]:List Tk)).length ((([]:List Tk)).flatMap Tk.cells)]:=hS41
   refine RL.PS (f:=Tk.cells) (l:=acc) (y:=(⟨6,[],⟨0,0,[],[],false,0⟩,len s⟩:Tk)) hS41 (k:=2) U (.t U) (.t U) (hS41.sl (i:=0) U) Tryz.underlying52 Tryz.type63 U U U Tk.cells_one (by':=96) U U (by omega) U (Hs':=λ v'=>[.own 63 9 v38 (([(⟨6,[],⟨0,0,[],[],false,0⟩,len s⟩:Tk)]:List Tk)).length ((([(⟨6,[],⟨0,0,[],[],false,0⟩,len s⟩:Tk)]:List Tk)).flatMap Tk.cells),X,.own 63 9 v' (acc++[(⟨6,[],⟨0,0,[],[],false,0⟩,len s⟩:Tk)]).length ((acc++[(⟨6,[],⟨0,0,[],[],false,0⟩,len s⟩:Tk)]).flatMap Tk.cells),.box b3 cs 104,.own 63 9 (.slice none 0 0) (([]:List Tk)).length ((([]:List Tk)).flatMap Tk.cells)]) (λ _=>rfl) (λ v43 w44 M45 hS46 hle47=>?_)
   replace hS46:=hS46.erase 0 U
   refine RL.a U U (RL.u (.assign .c) U (RL.u (.assign .c) U (RL.nil (CW.id ?_))))
   refine CW.ret (hE.r3 U U U U ?_)
   have hq:BB s=(acc++[BH s],0,0):=by rw[<-hF,Y2 hge]
   exact⟨_,_,rfl,⟨_,by rw[hq],by rw[hq];exact hS46.sl (i:=1) U⟩,hS46.done⟩
end Go.Proofs.YtmjpjbmeamnfpaaGreatDoor
set_option maxRecDepth 100000
namespace Go.Proofs.YtmjpjbmeamnfpaaGreatDoor
open Go.Eng
theorem vY(c:Int)(w:World):Calls Tryz.prog 299 [.int .u8 c].toArray w λ e w'=>e= .returned (.bool (E4 c))/\Ext w w':=by
 refine B3 AX Tryz.func299 U Tryz.ntmps299 [] [] [.v (.int .u8 c)] U (GG w) AA (λ B hB=>?_) U
 exact AH hB U U (A0 U) (by omega) U (A0 U) λ w M hX=>⟨rfl,hX.st.low⟩
theorem vZ(c:Int)(w:World):Calls Tryz.prog 300 [.int .u8 c].toArray w λ e w'=>e= .returned (.bool (C7 c))/\Ext w w':=by
 refine B3 AX Tryz.func300 U Tryz.ntmps300 [] [] [.v (.int .u8 c)] U (GG w) AA (λ B hB=>?_) U
 exact AH hB U U (A0 U) (by omega) U (A0 U) λ w M hX=>⟨rfl,hX.st.low⟩
theorem gY(s:A1)(w:World)(hb:len s<=1099511627776):Calls Tryz.prog 280 [str s].toArray w λ e w'=>e= .returned (i64 (CC s 0))/\Ext w w':=by
 have hln:=A8 s
 refine B3 AX Tryz.func280 U Tryz.ntmps280 [] [] [.v (str s)] U (GG w) AA (λ B hB=>?_) U
 refine EA (σ:=Int) (λ n=>⟨[],[],[Z 0 (.v (str s)),Z 3 (I n)]⟩) (λ n=>0<=n/\n<=len s/\CC s n=CC s 0) (λ n=>(len s-n).toNat) 0 U (A0 U) (by omega) U ⟨by omega,hln,rfl⟩ ?_
 rintro n ⟨h0,h1,hw⟩
 refine BE U (A0 U) (by simp only[zb]<;>omega) Tryz.call299 U U (A0 U) (λ _ w M hX=>vY (A2 s n) w) U ?_
 refine BE U (A0 U) (by simp only[zb]<;>omega) Tryz.call300 U U (A0 U) (λ _ w M hX=>vZ (A2 s n) w) U ?_
 refine AB U (A0 U) (by simp only[zb]<;>omega) (λ hb1=>?_) (λ hb1=>?_)<;>simp only[zb]at hb1
 ·have hwr:BN (A2 s n) (n==0)=true:=by unfold BN;simp only[zb];exact hb1.2.imp id λ q=>⟨by omega,q.2⟩
  exact DO (n+1) U (A0 U) (by omega) U ⟨by omega,by omega,by rw[NP h0 hb1.1 hwr,hw]⟩ (by show Int.toNat _<Int.toNat _;omega)
 ·have e:CC s n=n:=by
   by_cases hlt:n<len s
   ·refine NQ h0 hlt ?_
    have h2:=hb1.resolve_left (by omega)
    unfold BN
    simp only[zb]
    refine⟨h2.1,?_⟩
    rcases h2.2 with h3|h3
    ·exact .inl (by omega)
    ·exact .inr h3
   ·exact NR hlt
  exact AH hB U U (A0 U) (by omega) U (A0 U) λ w M hX=>⟨by rw[<-hw,e];rfl,hX.st.low⟩
theorem wA(s:A1):OL s=(s != []&&CC s 0==len s):=by
 unfold OL
 congr 1
 have h:=KF (s:=s) (i:=0) (by omega) (A8 s)
 rw[Bool.eq_iff_iff,beq_iff_eq,beq_iff_eq]
 constructor
 ·intro e;rw[<-MX,e]
 ·intro e
  unfold B1
  rw[e]
  unfold Eng.sub len;simp
theorem gZ(s:A1)(w:World)(hb:len s<=1099511627776):Calls Tryz.prog 254 [str s].toArray w λ e w'=>e= .returned (.bool (OL s))/\Ext w w':=by
 refine B3 AX Tryz.func254 U Tryz.ntmps254 [] [] [.v (str s)] U (GG w) AA (λ B hB=>?_) U
 refine BE U (A0 U) (by omega) Tryz.call280 U U (A0 U) (λ _ w M hX=>gY s w hb) U ?_
 exact AH hB U U (A0 U) (by simp only[zb]<;>omega) U (A0 U) λ w M hX=>⟨by rw[wA];rfl,hX.st.low⟩
abbrev hU(b:Nat)(a u:Value)(o:A1):List HO:=[.box b [a,u] 163,.own 5 1 u (ints o).length ((ints o).flatMap AU)]
abbrev UP(b:Nat)(a u:Value)(o:A1):List (Nat×HX):=[(1,.box b [.v a,.v u] 163),(2,.ho (.own 5 1 u (ints o).length ((ints o).flatMap AU)))]
theorem Z3{w0 wv:World}{M0 M:Mem}{Rs:List HO}(b:Nat)(a u:Value)(o s:A1)(hS:St w0 M0 wv M (hU b a u o++Rs))(ha:a= .pointer none\/a=BR b)(ho:len o<=35184372088832)(hs:len s<=35184372088832):
   Calls Tryz.prog 218 [.pointer (some ⟨b,0,none⟩),str s].toArray wv (CX w0 M0 M Rs (λ _:Value=>.tuple #[i64 (len s),.nilIface]) (λ _=>True) (λ _=>[]) λ u'=>hU b (BR b) u' (o++s)):=
 (YY b a (ints o) s u hS ha (by rw[GV];exact ho) hs).mono λ e w' ⟨x,he,v',M',hx,hS',hle⟩=>by
  subst hx
  rw[<-NU]at hS'
  exact⟨v',M',he,trivial,hle,hS',AA⟩
theorem Sp.BZ (x:Sp):x.cells.length=3:=rfl
theorem hY{x:Sp}(h1:len x.name<=1048576)(h2:x.part=true->0<=x.n/\x.n<=1000000):0<=len (EU A4 x)/\len (EU A4 x)<=6291463:=by
 refine⟨A8 _,?_⟩
 unfold EU
 have hn:=A8 x.name
 split
 ·rename_i hp
  have h3:=h2 hp
  have h4:=eC x.n
  rw[AG,AG,AK,len_nil,AK,len_nil];omega
 ·split
  ·rw[AG,AK,len_nil];omega
  ·have h3:=fY x.name
   rw[AG,AK,len_nil];omega
abbrev F0(p:List Sp):A1:=(p.map (EU A4)).flatten
theorem hZ(p:List Sp){k:Int}(h0:0<=k)(h1:k<len p):F0 (Eng.sub p 0 (k+1))=F0 (Eng.sub p 0 k)++EU A4 (at' p k):=by
 unfold F0;rw[OZ h0 h1];simp
theorem UQ{p:List Sp}(h:J5 p): ∀k:Nat,(k:Int)<=len p->len (F0 (Eng.sub p 0 (k:Int)))<=k*6291463
 |0,_=>by show len (F0 (Eng.sub p 0 0))<=_;unfold F0 Eng.sub;simp[len]
 |k+1,hk=>by
  have ih:=UQ h k (by omega)
  rw[show((k+1:Nat):Int)=(k:Int)+1 by omega,hZ p (by omega) (by omega),AG]
  obtain⟨q1,q2⟩:=h.2 _ (at_mem (k:=(k:Int)) (by omega) (by omega))
  have:=hY q1 q2
  omega
theorem i6{w:World}{M:Mem}(v:Value)(p:List Sp)(hM:Sat w M)(hg:Gl w)(hl:Sl M 3 p.length v (p.flatMap Sp.cells))(hp:J5 p):
    Calls Tryz.prog 224 [v].toArray w λ e w'=>e= .returned (str (F0 p))/\Ext w w':=by
 have hln:=A8 p
 have h20:=hp.1
 refine B3 (Hr:=[]) AX Tryz.func224 U Tryz.ntmps224 [(0,kn v 3 p Sp.cells)] [] [.sl 0 v] U (St.start hM) (fc 0 hl Sp.BZ AA) (λ B hB=>?_) U
 refine CL 1 U (A0 U) (by omega) Tryz.zeroValue163 U λ bb=>?_
 refine sP 2 5 1 AU W5 ?_
 refine EA (σ:=Int×Value×Value) (λ(k,a,u)=>⟨[(0,kn v 3 p Sp.cells)],UP bb a u (F0 (Eng.sub p 0 k)),[Z 3 (.bx 1 bb 0),Z 6 (.sl 0 v),Z 7 (I (len p)),Z 8 (I k)]⟩) (λ(k,a,u)=>0<=k/\k<=len p/\(a= .pointer none\/a=BR bb)) (λ(k,a,u)=>(len p-k).toNat) (0,.pointer none,.slice none 0 0) U (A0 U) (by omega) U ⟨by omega,hln,.inl U⟩ ?_
 rintro⟨k,a,u⟩ ⟨h0,h1,ha⟩
 have htl:=UQ hp k.toNat (by omega)
 rw[show((k.toNat:Nat):Int)=k by omega]at htl
 refine AB U (A0 U) (by omega) (λ hb1=>?_) (λ hb1=>?_)<;>simp only[zb]at hb1
 ·obtain⟨q1,q2⟩:=hp.2 _ (at_mem h0 hb1)
  have hsl:=hY q1 q2
  have hnx:=hZ p h0 hb1
  have hnn:=A8 (at' p k).name
  refine CL 5 U (A0 U) (by omega) Tryz.zeroValue68 U λ b5=>?_
  refine AB U (A0 U) (by omega) (λ hb2=>?_) (λ hb2=>?_)
  ·have e:EU A4 (at' p k)=([91]++Lib.itoa (at' p k).n)++[93]:=by unfold EU;rw[if_pos hb2]
   have hit:=eC (at' p k).n
   have hq:=q2 hb2
   refine BE U (A0 U) (by omega) Tryz.call245 U U (A0 U) (λ _ w M hX=>WB _ w (hg.low hX.st.low) (by omega) (by omega)) U ?_
   refine B9 [1,2] (λ _=>.tu [I (len (EU A4 (at' p k))),.v .nilIface]) [] (λ u'=>UP bb (BR bb) u' (F0 (Eng.sub p 0 k)++EU A4 (at' p k))) U (A0 U) (by simp only[zb,AG,AK,len_nil]<;>omega) U Tryz.call218 U U (A0 U) U (λ w M hS hF=>by rw[e];exact Z3 bb a u _ _ hS ha (by omega) (by rw[<-e];omega)) (λ _=>rfl) (λ _=>rfl) λ u' _=>?_
   exact DO (k+1,BR bb,u') U (A0 U) (by omega) (by dsimp only;rw[hnx];rfl) ⟨by omega,by omega,.inr U⟩ (by show Int.toNat _<Int.toNat _;omega)
  ·refine BE U (A0 U) (by omega) Tryz.call254 U U (A0 U) (λ _ w M hX=>gZ (at' p k).name w (by omega)) U ?_
   refine AB U (A0 U) (by omega) (λ hb3=>?_) (λ hb3=>?_)
   ·have e:EU A4 (at' p k)=[46]++(at' p k).name:=by unfold EU;rw[if_neg (by rw[hb2];decide),if_pos hb3]
    refine B9 [1,2] (λ _=>.tu [I (len (EU A4 (at' p k))),.v .nilIface]) [] (λ u'=>UP bb (BR bb) u' (F0 (Eng.sub p 0 k)++EU A4 (at' p k))) U (A0 U) (by simp only[zb,AG,AK,len_nil]<;>omega) U Tryz.call218 U U (A0 U) U (λ w M hS hF=>by rw[e];exact Z3 bb a u _ _ hS ha (by omega) (by rw[<-e];omega)) (λ _=>rfl) (λ _=>rfl) λ u' _=>?_
    exact DO (k+1,BR bb,u') U (A0 U) (by omega) (by dsimp only;rw[hnx];rfl) ⟨by omega,by omega,.inr U⟩ (by show Int.toNat _<Int.toNat _;omega)
   ·have e:EU A4 (at' p k)=[46]++A4 (at' p k).name:=by unfold EU;rw[if_neg (by rw[hb2];decide),if_neg (by rw[hb3];decide)]
    have hql:=fY (at' p k).name
    refine BE U (A0 U) (by omega) Tryz.call255 U U (A0 U) (λ _ w M hX=>gP (at' p k).name w (hg.low hX.st.low) (by omega)) U ?_
    refine B9 [1,2] (λ _=>.tu [I (len (EU A4 (at' p k))),.v .nilIface]) [] (λ u'=>UP bb (BR bb) u' (F0 (Eng.sub p 0 k)++EU A4 (at' p k))) U (A0 U) (by simp only[zb,AG,AK,len_nil]<;>omega) U Tryz.call218 U U (A0 U) U (λ w M hS hF=>by rw[e];exact Z3 bb a u _ _ hS ha (by omega) (by rw[<-e];omega)) (λ _=>rfl) (λ _=>rfl) λ u' _=>?_
    exact DO (k+1,BR bb,u') U (A0 U) (by omega) (by dsimp only;rw[hnx];rfl) ⟨by omega,by omega,.inr U⟩ (by show Int.toNat _<Int.toNat _;omega)
 ·have hke:k=len p:=by omega
  subst hke
  rw[LP (Int.le_refl _)]at*
  refine sQ hM U U U (A0 U) (by omega) Tryz.call110 U U (A0 U) (λ w M hX=>(Z0 bb a u (F0 p) (ints (F0 p)) hX.st ha U).mono λ e w' ⟨x,h1,h2,h3⟩=>⟨by rw[h1,h2],h3⟩) U ?_
  exact AH hB U U (A0 U) (by omega) U (A0 U) λ w M' hX=>⟨rfl,hX.st.low⟩
theorem i7(p:List Sp):FZ A4 p=if p=[]\/(at' p 0).part=true then [46]++F0 p else F0 p:=by
 unfold FZ;split<;>simp
theorem wB{w:World}{M:Mem}(v:Value)(p:List Sp)(hM:Sat w M)(hg:Gl w)(hl:Sl M 3 p.length v (p.flatMap Sp.cells))(hp:J5 p):
    Calls Tryz.prog 175 [v].toArray w λ e w'=>e= .returned (str (FZ A4 p))/\Ext w w':=by
 have hln:=A8 p
 have h20:=hp.1
 have htl:=UQ hp p.length (by show len p<=_;omega)
 rw[show((p.length:Nat):Int)=len p from rfl,LP (Int.le_refl _)]at htl
 refine B3 (Hr:=[]) AX Tryz.func175 U Tryz.ntmps175 [(0,kn v 3 p Sp.cells)] [] [.sl 0 v] U (St.start hM) (fc 0 hl Sp.BZ AA) (λ B hB=>?_) U
 refine AB U (A0 U) (by simp only[zb]<;>omega) (λ hb1=>?_) (λ hb1=>?_)<;>simp only[zb]at hb1
 ·have e:FZ A4 p=[46]++F0 p:=by
   rw[i7,if_pos (hb1.imp (λ q=>by cases p with|nil=>rfl|cons x r=>rw[AK]at q;have:=A8 r;omega) id)]
  rw[e]at hB
  refine BE U (A0 U) (by omega) Tryz.call224 U U (A0 U) (λ _ w M hX=>i6 v p hX.st.sat (hg.low hX.st.low) (hX.sl 0 U) hp) U ?_
  exact AH hB U U (A0 U) ⟨(by show(1:Int)+len (F0 p)<=9223372036854775807;omega),rfl⟩ U (A0 U) λ w M' hX=>⟨rfl,hX.st.low⟩
 ·have e:FZ A4 p=F0 p:=by
   rw[i7,if_neg (λ q=>?_)]
   rcases q with q|q
   · rw[q]at hb1;exact hb1.1 U
   · rw[q]at hb1;cases hb1.2
  rw[e]at hB
  refine BE U (A0 U) (by omega) Tryz.call224 U U (A0 U) (λ _ w M hX=>i6 v p hX.st.sat (hg.low hX.st.low) (hX.sl 0 U) hp) U ?_
  exact AH hB U U (A0 U) (by omega) U (A0 U) λ w M' hX=>⟨rfl,hX.st.low⟩
end Go.Proofs.YtmjpjbmeamnfpaaGreatDoor
set_option maxRecDepth 100000
namespace Go.Proofs.YtmjpjbmeamnfpaaGreatDoor
open Go.Eng
structure PIn (w0 wv:World) (M0 M:Mem) (Rs:List HO) (b:Nat) (v:Value) (l:List Tk) (i d:Int):Prop where
 st:St w0 M0 wv M (sE b v i d::Rs)
 sl:Sl M 9 l.length v (l.flatMap Tk.cells)
 g:Gl w0
 ok:C6 l
 h0:0<=i
 h1:i<len l
def KP(l:List A1)(x:A1):Int:=if x∈l then(l.idxOf x:Nat)else-1
theorem iA{x:A1}: ∀ {l:List A1} {n:Nat} (h:n<l.length),l[n]=x->l.idxOf x<=n
 |[],n,h,_=>absurd h (Nat.not_lt_zero _)
 |a::l,0,h,hx=>by
  have:a=x:=hx
  rw[List.idxOf_cons,this];simp
 |a::l,n+1,h,hx=>by
  have:=iA (l:=l) (n:=n) (by simpa using h) (by simpa using hx)
  rw[List.idxOf_cons]
  cases (a==x)<;>simp<;>omega
theorem wC{l:List A1}{x:A1}{k:Int}(h0:0<=k)(h1:k<len l)(ha: ∀j,0<=j->j<k->at' l j≠x)(hx:at' l k=x):KP l x=k:=by
 have hm:x∈l:=hx▸at_mem h0 h1
 obtain⟨hlt,e⟩:=G7 l h0 h1
 unfold KP
 rw[if_pos hm]
 have hi:l.idxOf x<l.length:=List.idxOf_lt_length_iff.2 hm
 have hle:l.idxOf x<=k.toNat:=iA hlt (by rw[<-e];exact hx)
 have hge: ¬l.idxOf x<k.toNat:=λ h=>by
  obtain⟨h2,e2⟩:=G7 l (i:=(l.idxOf x:Int)) (by omega) (by unfold len;omega)
  refine ha (l.idxOf x) (by omega) (by omega) ?_
  rw[e2];simp
 omega
theorem wD{l:List A1}{x:A1}(ha: ∀j,0<=j->j<len l->at' l j≠x):KP l x= -1:=by
 unfold KP
 rw[if_neg λ hm=>?_]
 obtain⟨i,h0,h1,e⟩:=sR hm
 exact ha i h0 h1 e
theorem wE{w:World}{M:Mem}(v:Value)(l:List A1)(x:A1)(hM:Sat w M)(hl:Sl M 1 l.length v (l.flatMap AW))(hb:len l<=1099511627776):
    Calls Tryz.prog 226 [v,str x].toArray w λ e w'=>e= .returned (i64 (KP l x))/\Ext w w':=by
 have hln:=A8 l
 refine B3 (Hr:=[]) AX Tryz.func226 U Tryz.ntmps226 [(0,kn v 1 l AW)] [] [.sl 0 v,.v (str x)] U (St.start hM) (fc 0 hl DN AA) (λ B hB=>?_) U
 refine EA (σ:=Int) (λ k=>⟨[(0,kn v 1 l AW)],[],[Z 0 (.sl 0 v),Z 1 (.v (str x)),Z 7 (I (len l)),Z 8 (I k)]⟩) (λ k=>0<=k/\k<=len l/\ ∀j,0<=j->j<k->at' l j≠x) (λ k=>(len l-k).toNat) 0 U (A0 U) (by omega) U ⟨by omega,hln,λ j h0 h1=>by omega⟩ ?_
 rintro k ⟨h0,h1,ha⟩
 refine AB U (A0 U) (by omega) (λ hb1=>?_) (λ hb1=>?_)<;>simp only[zb]at hb1
 ·refine AB U (A0 U) (by omega) (λ hb2=>?_) (λ hb2=>?_)<;>simp only[zb]at hb2
  ·exact AH hB U U (A0 U) (by omega) U (A0 U) λ w M hX=>⟨by rw[wC h0 hb1 ha hb2.symm];rfl,hX.st.low⟩
  ·exact DO (k+1) U (A0 U) (by omega) U ⟨by omega,by omega,λ j q0 q1=>by
    by_cases hj:j=k
    ·subst hj;exact λ q=>hb2 q.symm
    ·exact ha j q0 (by omega)⟩ (by show Int.toNat _<Int.toNat _;omega)
 ·exact AH hB U U (A0 U) (by omega) U (A0 U) λ w M hX=>⟨by rw[wD (λ j q0 q1=>ha j q0 (by omega))];rfl,hX.st.low⟩
theorem Sp.cells_one (x:Sp): ∀u∈x.cells,u.oneCell'=true:=by intro u hu;simp[Sp.cells]at hu;rcases hu with rfl|rfl|rfl<;>rfl
abbrev RF(v:Value)(xs:List Sp):HO:=.own 68 3 v xs.length (xs.flatMap Sp.cells)
end Go.Proofs.YtmjpjbmeamnfpaaGreatDoor
set_option maxRecDepth 100000
namespace Go.Proofs.YtmjpjbmeamnfpaaGreatDoor
open Go.Eng
structure G4 (w0 wv:World) (M0 M:Mem) (Rs:List HO) (b:Nat) (v:Value) (l:List Tk) (i d:Int):Prop where
 st:St w0 M0 wv M (EJ b v i d::Rs)
 sl:Sl M 9 l.length v (l.flatMap Tk.cells)
 g:Gl w0
 ok:C6 l
 h0:0<=i
 h1:i<len l
abbrev RG{α:Type}(w0:World)(M0 M:Mem)(Rs:List HO)(b:Nat)(v:Value)(d:Int)(r:PR α)(u:α->Value):Ending->World->Prop:=
 LG w0 M0 M Rs 82 r λ x j=>CX w0 M0 M Rs (λ _:Unit=>u x) (λ _=>True) (λ _=>[]) λ _=>[EJ b v j d]
def F1(l:List Tk)(i kd:Int)(ws:List A1):Int:=if(at' l i).kind=kd then KP ws (at' l i).s else-1
theorem Z4{l:List Tk}{i kd:Int}{ws:List A1}(h:F1 l i kd ws<0): ¬((at' l i).kind=kd/\(at' l i).s∈ws):=by
 rintro⟨h1,h2⟩
 unfold F1 KP at h
 rw[if_pos h1,if_pos h2]at h;omega
theorem Z5{l:List Tk}{i kd:Int}{ws:List A1}(h: ¬F1 l i kd ws<0):(at' l i).kind=kd/\(at' l i).s∈ws/\F1 l i kd ws=(ws.idxOf (at' l i).s:Nat):=by
 unfold F1 KP at*
 by_cases h1:(at' l i).kind=kd
 ·rw[if_pos h1]at*
  by_cases h2:(at' l i).s∈ws
  ·rw[if_pos h2]at*;exact⟨h1,h2,rfl⟩
  ·rw[if_neg h2]at h;omega
 ·rw[if_neg h1]at h;omega
theorem Z6(l:List Tk)(i kd:Int)(ws:List A1): -1<=F1 l i kd ws:=by unfold F1 KP;split<;>(try split)<;>omega
theorem Z7{w0 wv:World}{M0 M:Mem}{Rs:List HO}{b:Nat}{v:Value}{l:List Tk}{i d:Int}(kd:Int)(vw:Value)(ws:List A1)(h:G4 w0 wv M0 M Rs b v l i d)(hw:Sl M 1 ws.length vw (ws.flatMap AW))(hb:len ws<=1099511627776):
   Calls Tryz.prog 177 [.pointer (some ⟨b,0,none⟩),i64 kd,vw].toArray wv (CX w0 M0 M Rs (λ _:Unit=>i64 (F1 l i kd ws)) (λ _=>True) (λ _=>[]) λ _=>[EJ b v i d]):=by
 obtain⟨hS,hl,hg,ok,h0,h1⟩:=h
 refine B3 (Hr:=Rs) AX Tryz.func177 U Tryz.ntmps177 [(0,kn v 9 l Tk.cells),(1,kn vw 1 ws AW)] [(0,AS b v i d)] [.bx 0 b 0,I kd,.sl 1 vw] U hS (fc 0 hl (λ _=>rfl) (fc 1 hw DN AA)) (λ B hB=>?_) U
 refine CF [0] (DA (at' l i)) U (A0 U) (by omega) Tryz.call41 U U (A0 U) U (λ _ w M hS hF=>DR hS (hF.get (k:=0) U).sl h0 h1) U ?_
 refine AB U (A0 U) (by omega) (λ hb1=>?_) (λ hb1=>?_)<;>simp only[zb]at hb1
 ·exact AH hB U U (A0 U) (by omega) U (A0 U) λ w M' hX=>⟨(),M',by unfold F1;rw[if_neg hb1];rfl,trivial,hX.le,hX.st,AA⟩
 refine CF [0] (DA (at' l i)) U (A0 U) (by omega) Tryz.call41 U U (A0 U) U (λ _ w M hS hF=>DR hS (hF.get (k:=0) U).sl h0 h1) U ?_
 refine BE U (A0 U) (by omega) Tryz.call226 U U (A0 U) (λ _ w M hX=>wE vw ws (at' l i).s hX.st.sat (hX.sl 1 U) hb) U ?_
 exact AH hB U U (A0 U) (by omega) U (A0 U) λ w M' hX=>⟨(),M',by unfold F1;rw[if_pos hb1];rfl,trivial,hX.le,hX.st,AA⟩
theorem wF{w0 wv:World}{M0 M:Mem}{Rs:List HO}{b:Nat}{v:Value}{l:List Tk}{i d:Int}(h:G4 w0 wv M0 M Rs b v l i d):
    Calls Tryz.prog 178 [.pointer (some ⟨b,0,none⟩)].toArray wv (RG w0 M0 M Rs b v d (D0 l i) λ c=>.agg c.cells.toArray):=by
 obtain⟨hS,hl,hg,ok,h0,h1⟩:=h
 have hfew:=ok.few
 refine B3 (Hr:=Rs) AX Tryz.func178 U Tryz.ntmps178 [(0,kn v 9 l Tk.cells)] [(0,AS b v i d)] [.bx 0 b 0] U hS (fc 0 hl (λ _=>rfl) AA) (λ B hB=>?_) U
 refine CL 2 U (A0 U) (by omega) Tryz.zeroValue46 U λ b2=>?_
 refine CF [0] (DA (at' l i)) U (A0 U) (by omega) Tryz.call41 U U (A0 U) U (λ _ w M hS hF=>DR hS (hF.get (k:=0) U).sl h0 h1) U ?_
 refine CL 1 U (A0 U) (by omega) Tryz.zeroValue63 U λ b1=>?_
 refine EN 3 [KJ,KI,KH] AW 1 9 DN U (A0 U) (by omega) U (A0 U) (λ w=>by kernel_rfl) U λ v3=>?_
 refine TU [3] U U ?_
 have hge:=Z6 l i 2 [KJ,KI,KH]
 refine CF [0] (I (F1 l i 2 [KJ,KI,KH])) U (A0 U) (by omega) Tryz.call177 U U (A0 U) U (λ _ w M hS hF=>Z7 2 v3 [KJ,KI,KH] ⟨hS,(hF.get (k:=0) U).sl,hg,ok,h0,h1⟩ (hF.get (k:=3) U).sl (by decide)) U ?_
 refine AB U (A0 U) (by simp only[zb]<;>omega) (λ hb1=>?_) (λ hb1=>?_)<;>simp only[zb]at hb1
 ·have e:D0 l i= .er 1 (at' l i).pos:=by
   unfold D0 B8
   rw[if_neg hb1.1.2,if_neg hb1.2,if_neg (Z4 hb1.1.1)]
  rw[e]at hB
  exact F7 [0] U (A0 U) (by omega) U Tryz.call42 U (A0 U) U (λ w M hS hF=>HP (at' l i) 1 hS) λ a w M hs hS hle=>E5 _ (hB.p ⟨M,rfl,hS.drop _ fD,hle⟩ a hs)
 refine AB U (A0 U) (by simp only[zb]<;>omega) (λ hb2=>?_) (λ hb2=>?_)<;>simp only[zb]at hb2
 ·have e:D0 l i= .ok (at' l i).c (i+1):=by unfold D0;rw[if_pos hb2]
  rw[e]at hB
  exact AH hB U U (A0 U) (by omega) U (A0 U) λ w M' hX=>⟨(),M',rfl,trivial,hX.le,(hX.C5 [0] U).drop _ ((List.sublist_cons_self _ _).cons_cons _),AA⟩
 refine AB U (A0 U) (by simp only[zb]<;>omega) (λ hb3=>?_) (λ hb3=>?_)<;>simp only[zb]at hb3
 ·have e:D0 l i= .ok ⟨4,0,[],(at' l i).s,false,0⟩ (i+1):=by unfold D0;rw[if_neg hb2,if_pos hb3]
  rw[e]at hB
  exact AH hB U U (A0 U) (by omega) U (A0 U) λ w M' hX=>⟨(),M',rfl,trivial,hX.le,(hX.C5 [0] U).drop _ ((List.sublist_cons_self _ _).cons_cons _),AA⟩
 ·have hw: ¬F1 l i 2 [KJ,KI,KH]<0:=by omega
  obtain⟨q1,q2,q3⟩:=Z5 hw
  have e:D0 l i= .ok ⟨F1 l i 2 [KJ,KI,KH],0,[],[],false,0⟩ (i+1):=by
   unfold D0
   rw[if_neg hb2,if_neg hb3,if_pos ⟨q1,q2⟩,q3]
  rw[e]at hB
  exact AH hB U U (A0 U) (by omega) U (A0 U) λ w M' hX=>⟨(),M',rfl,trivial,hX.le,(hX.C5 [0] U).drop _ ((List.sublist_cons_self _ _).cons_cons _),AA⟩
end Go.Proofs.YtmjpjbmeamnfpaaGreatDoor
set_option maxRecDepth 100000
namespace Go.Proofs.YtmjpjbmeamnfpaaGreatDoor
open Go.Eng
theorem iB{w0 wv:World}{M0 M:Mem}{Rs:List HO}{b:Nat}{v:Value}{l:List Tk}{i d:Int}{r:PR Nd}(e:D0 l i=r)(h:G4 w0 wv M0 M Rs b v l i d):
 Calls Tryz.prog 178 [.pointer (some ⟨b,0,none⟩)].toArray wv (RG w0 M0 M Rs b v d r λ c=>.agg c.cells.toArray):=by subst e;exact wF h
theorem iC{w0 wv:World}{M0 M:Mem}{Rs:List HO}{b:Nat}{v:Value}{l:List Tk}{i d:Int}(h:G4 w0 wv M0 M Rs b v l i d):
   Calls Tryz.prog 137 [.pointer (some ⟨b,0,none⟩)].toArray wv (RG w0 M0 M Rs b v d (HM l i) λ x=>.agg x.t.cells.toArray):=by
 obtain⟨hS,hl,hg,ok,h0,h1⟩:=h
 have hfew:=ok.few
 refine B3 (Hr:=Rs) AX Tryz.func137 U Tryz.ntmps137 [(0,kn v 9 l Tk.cells)] [(0,AS b v i d)] [.bx 0 b 0] U hS (fc 0 hl (λ _=>rfl) AA) (λ B hB=>?_) U
 refine CL 2 U (A0 U) (by omega) Tryz.zeroValue48 U λ b2=>?_
 refine EN 3 JZ AW 1 9 DN U (A0 U) (by omega) U (A0 U) (λ w=>by kernel_rfl) U λ v3=>?_
 refine TU [3] U U ?_
 have hge:=Z6 l i 1 JZ
 refine CF [0] (I (F1 l i 1 JZ)) U (A0 U) (by omega) Tryz.call177 U U (A0 U) U (λ _ w M hS hF=>Z7 1 v3 JZ ⟨hS,(hF.get (k:=0) U).sl,hg,ok,h0,h1⟩ (hF.get (k:=3) U).sl (by decide)) U ?_
 unfold HM at hB
 refine AB U (A0 U) (by omega) (λ hb1=>?_) (λ hb1=>?_)<;>simp only[zb]at hb1
 ·rw[if_neg (Z4 hb1)]at hB
  refine CF [0] (DA (at' l i)) U (A0 U) (by omega) Tryz.call41 U U (A0 U) U (λ _ w M hS hF=>DR hS (hF.get (k:=0) U).sl h0 h1) U ?_
  exact F7 [0] U (A0 U) (by omega) U Tryz.call42 U (A0 U) U (λ w M hS hF=>HP (at' l i) 1 hS) λ a w M hs hS hle=>E5 _ (hB.p ⟨M,rfl,hS.drop _ IB,hle⟩ a hs)
 obtain⟨q1,q2,q3⟩:=Z5 (l:=l) (i:=i) (kd:=1) (ws:=JZ) (by omega)
 have hj2:=EZ ok h0 h1 q1 (by decide)
 rw[if_pos ⟨q1,q2⟩,<-q3]at hB
 cases hli:D0 l (i+1)with
 |er ec p=>
  rw[hli]at hB
  exact F7 [0] U (A0 U) (by simp only[zb]<;>omega) U Tryz.call178 U (A0 U) U (λ w M hS hF=>iB hli ⟨hS,(hF.get (k:=0) U).sl,hg,ok,by omega,hj2⟩) λ a w M hs hS hle=>E5 _ (hB.p ⟨M,rfl,hS.drop _ IB,hle⟩ a hs)
 |ok c k=>
  obtain⟨rfl,hj3⟩:=fI ok (by omega) hj2 hli
  rw[hli]at hB
  refine B9 [0] (λ _:Unit=>.ag (HF c.cells)) [] (λ _=>[(0,AS b v (i+1+1) d)]) U (A0 U) (by simp only[zb]<;>omega) U Tryz.call178 U U (A0 U) U (λ w M hS hF=>iB hli ⟨hS,(hF.get (k:=0) U).sl,hg,ok,by omega,hj2⟩) (λ _=>rfl) (λ _=>rfl) λ _ _=>?_
  exact AH hB U U (A0 U) (by omega) U (A0 U) λ w M' hX=>⟨(),M',rfl,trivial,hX.le,(hX.C5 [0] U).drop _ ((List.sublist_cons_self _ _).cons_cons _),AA⟩
end Go.Proofs.YtmjpjbmeamnfpaaGreatDoor
namespace Go.Eng
open Go.RowKit
section pv
variable {P:Program} {C:World->Prop} {L:Env} {W:Bool} {d:Option Tmp} {ty:TypeId} {ps:String} {af:Array Edge} {gd:Option (Nat×Bool)}
theorem PV.wG {t t':TypeId}{x y:Operand}{k yk:IntKind}{a b r:Int}(hx:A5 L W x (.int k a))(hy:A5 L W y (.int yk b))(hb:W=true->0<=b)(hr:W=true->a.fdiv (2^min b.toNat k.bits)=r):PV P C L W ⟨d,.binOp .shr t x y t',ty,ps,af,gd⟩ (.int k r):=
 .bin hx hy λ hW w _=>by rw[<-hr hW];simp[go_sem,binOp,Op.shift,Sem.run,pure,bind,Sem.bind,show ¬b<0 from by have:=hb hW;omega]
theorem PV.wH {t t':TypeId}{x y:Operand}{k yk:IntKind}{a b r:Int}(hx:A5 L W x (.int k a))(hy:A5 L W y (.int yk b))(hb:W=true->0<=b)(hr:W=true->k.wrap (a*2^min b.toNat k.bits)=r):PV P C L W ⟨d,.binOp .shl t x y t',ty,ps,af,gd⟩ (.int k r):=
 .bin hx hy λ hW w _=>by rw[<-hr hW];simp[go_sem,binOp,Op.shift,Sem.run,pure,bind,Sem.bind,show ¬b<0 from by have:=hb hW;omega]
theorem PV.wI {t t':TypeId}{x y:Operand}{k:IntKind}{a b r:Int}(hx:A5 L W x (.int k a))(hy:A5 L W y (.int k b))(hr:W=true->k.wrap (BitVec.ofInt k.bits a&&& BitVec.ofInt k.bits b).toNat=r):PV P C L W ⟨d,.binOp .and t x y t',ty,ps,af,gd⟩ (.int k r):=
 .bin hx hy λ hW w _=>by rw[<-hr hW];simp[go_sem,binOp,Op.intBits,Sem.run,pure,bind,Sem.bind]
theorem PV.wJ {t t':TypeId}{x y:Operand}{k:IntKind}{a b r:Int}(hx:A5 L W x (.int k a))(hy:A5 L W y (.int k b))(hr:W=true->k.wrap (BitVec.ofInt k.bits a|||BitVec.ofInt k.bits b).toNat=r):PV P C L W ⟨d,.binOp .or t x y t',ty,ps,af,gd⟩ (.int k r):=
 .bin hx hy λ hW w _=>by rw[<-hr hW];simp[go_sem,binOp,Op.intBits,Sem.run,pure,bind,Sem.bind]
end pv
end Go.Eng
namespace Go.Eng
open Go.RowKit
theorem PR.HS {α β:Type}{k:α->Int->PR β}{x:α}{j:Int}:(PR.ok x j).bind k=k x j:=rfl
theorem PR.ret {α:Type}(r:PR α):(r.bind λ x j=>.ok x j)=r:=by cases r<;>rfl
theorem PR.assoc {α β γ:Type}(r:PR α)(f:α->Int->PR β)(g:β->Int->PR γ):(r.bind f).bind g=r.bind λ x j=>(f x j).bind g:=by cases r<;>rfl
theorem PR.congr {α β:Type}{r:PR α}{f g:α->Int->PR β}(h: ∀x j,f x j=g x j):r.bind f=r.bind g:=by cases r with|er c p=>rfl|ok x j=>exact h x j
section
variable {c:Cx} {B:Exit->Act->World->Prop} {k k':List Fr} {m:Md} {s s':XS} {O:Prop} {E:List Ck} {all:Array Oper} {rest:List Oper} {d:Nat} {ty:TypeId} {ps:String} {af:Array Edge}
theorem BO{α β γ:Type}(ids ks:List Nat)(ux:α->γ->XV)(Hx:α->Int->γ->List (Nat×HX)){tw:TypeId}{r:PR α}{kk:α->Int->PR β}{fn:Func}{G:β->Int->Ending->World->Prop}{Rs:List HO}{u:α->γ->Value}{pu:α->Int->γ->Prop}{Fg:α->Int->γ->List (Nat×Kn)}{Hg:α->Int->γ->List HO}
  {xf:Operand} {f:FuncId} {fa fb:List Value} {E1 E2:List Ck} {xs:List Operand} {tys:Array TypeId} {vs:List XV} {A R:List (Nat×HX)} {dd:Option Tmp} (hB:Ends c.P fn (LG c.w0 c.M0 c.M1 Rs tw (r.bind kk) G) B)
  (h:run c.T c.N k m s=⟨k',.ops all (⟨dd,.call ⟨.value xf,⟨xs⟩,tys⟩,ty,ps,af,none⟩::rest),s',O,E⟩) (hE:A6 E) (hO:O) (hf:callee s'.L xf=some (f,fa,fb,E1)) (ct:CT c.P f) (hd:dO dd c.N=true) (hx:HG s'.L .t xs=some (vs,E2)) (hE1:A6 (E1++E2))
  (hA:IW ids s'.H=some (A,R)) (hR:Rs.Sublist (HD R++c.Hr)) (hc: ∀w M,St c.w0 c.M0 w M (HD A++(HD R++c.Hr))->B7 M s'.F->Calls c.P f (fa++vs.map XV.d++fb).toArray w (LG c.w0 c.M0 M (HD R++c.Hr) tw r λ x j=>CX c.w0 c.M0 M (HD R++c.Hr) (u x) (pu x j) (Fg x j) (Hg x j)))
  (hu: ∀x g,(ux x g).d=u x g) (hH: ∀x j g,HD (Hx x j g)=Hg x j g)
  (hn: ∀x j,r= .ok x j->Ends c.P fn (LG c.w0 c.M0 c.M1 Rs tw (kk x j) G) B-> ∀g,pu x j g->XG c B k' (.ops all rest) ⟨OD ks (Fg x j g)++s'.F,Hx x j g++R,XJ dd (ux x g) s'.L⟩):XG c B k m s:=by
 cases r with
 |er ec p=>exact F7 ids h hE hO hf ct hx hE1 hA hc λ a w M hs hS hle=>E5 _ (hB.p ⟨M,rfl,hS.drop _ hR,hle⟩ a hs)
 |ok x j=>exact B9 ids (ux x) ks (Hx x j) h hE hO hf ct hd hx hE1 hA hc (hu x) (hH x j) (hn x j U hB)
theorem wK{id:Nat}(hl: ∀Q a w,Q Exit.normal a w->c.W.wp (.label id) Q a w)(h:run c.T c.N k m s=⟨k',.code (.label id),s',O,E⟩)(hE:A6 E)(hO:O)(hn:XG c B k' .next s'):XG c B k m s:=
 CH h hE hO λ a w hs=>hl _ a w (hn a w hs)
theorem iD{σ:Type}{x z:Code}{k2 q:List Fr}(n:Nat)(J:XS->Prop)(Sf:σ->XS)(I:σ->Prop)(μ:σ->Nat)(g0:σ)(h:run c.T c.N k m s=⟨k',.code (.loop x),s',O,E⟩)(hE:A6 E)(hO:O)
  (hk:OB J k' n=some (k2,z,q)) (h0:(⟨IU (Sf g0).F s'.F,IV (Sf g0).H s'.H,FK (keys (Sf g0).L) s'.L⟩:XS)=Sf g0) (hI:I g0)
  (hr: ∀g,I g->XG c B (.loop (LJ Sf I μ g)::k2) (.code x) (Sf g)) (h2: ∀s',J s'->XG c B q (.code z) s'):XG c B k m s:=by
 obtain⟨p,rfl,rfl⟩:=XI hk
 have hm: ∀e a w,post c B (.loop J::q) e a w->post c B (.seq z::q) e a w:=λ e a w h=>OC (λ a w ⟨s',hJ,hs⟩=>h2 s' hJ a w hs) (λ _ _ _ h=>h) e a w h
 exact EA Sf I μ g0 h hE hO h0 hI λ g hg a w hs=>c.W.mono (hr g hg a w hs) (JU hm (.loop (LJ Sf I μ g)::p))
theorem iE{op:Op}{l:List Oper}{F:List (Nat×Kn)}{H:List (Nat×HX)}{L L':XE}{gd:Option (Nat×Bool)}{W:Gd}(v:XV)(h:HJ c.T c.N F H all l L ((0:Int)=0) []=⟨⟨some d,op,ty,ps,af,gd⟩::rest,L',O,E⟩)(hE:A6 E)(hO:O)(hg:(GY all L' gd,Nat.blt d c.N)=(some W,true))
  (hp: ∀w M,D4 c F H w M->PV c.P (λ w'=>Ext w w') L'.d W.d ⟨some d,op,ty,ps,af,gd⟩ v.d) (hn:XQ c B k all rest ⟨F,H,(d,W,v)::L'⟩):XQ c B k all l ⟨F,H,L⟩:=by
 simp only[Prod.mk.injEq]at hg
 have:=TM (c:=c) (B:=B) (k:=k) (all:=all) (F:=F) (H:=H) (l:=l) (L:=L) (O:=(0:Int)=0) (E:=[])
 rw[h]at this
 exact(this hO hE λ w M hX=>RQ.v (JS hg.1) (hp w M hX) hg.2 (hn w M hX)).2.2
end
end Go.Eng
set_option maxRecDepth 100000
namespace Go.Proofs.YtmjpjbmeamnfpaaGreatDoor
open Go.Eng
theorem wL: ∀a:Fin 32,IntKind.i64.wrap (BitVec.ofInt IntKind.i64.bits ((a:Nat):Int)&&& BitVec.ofInt IntKind.i64.bits 1).toNat=(((a:Nat)%2:Nat):Int):=by decide+kernel
theorem iF: ∀(a:Fin 32) (k:Fin 5),(a:Nat)/2^ (k:Nat)%2=0->IntKind.i64.wrap (BitVec.ofInt IntKind.i64.bits ((a:Nat):Int)|||BitVec.ofInt IntKind.i64.bits ((2^ (k:Nat):Nat):Int)).toNat=((a:Nat):Int)+((2^ (k:Nat):Nat):Int)/\(a:Nat)+2^ (k:Nat)<32:=by decide+kernel
theorem wM(m k:Nat)(h:k<5):((m:Int)).fdiv (2^min ((k:Int)).toNat IntKind.i64.bits)=((m/2^k:Nat):Int):=by
 rw[Int.toNat_natCast,show min k IntKind.i64.bits=k from Nat.min_eq_left (by show k<=64;omega),Int.fdiv_eq_ediv_of_nonneg _ (Int.pow_nonneg (by decide)),Int.natCast_ediv,Int.natCast_pow];rfl
theorem wN: ∀k:Fin 5,IntKind.i64.wrap (1*2^min (((k:Nat):Int)).toNat IntKind.i64.bits)=((2^ (k:Nat):Nat):Int):=by decide+kernel
theorem UR{l:List Tk}(ok:C6 l){m i n j:Int}(h0:0<=i)(h1:i<len l)(hm0:0<=m)(hm1:m<32)(h:GL l m i= .ok n j):j=i+1/\j<len l/\0<=n/\n<32:=by
 unfold GL at h
 split at h
 ·rename_i q
  have h5:GK.idxOf (at' l i).s<5:=List.idxOf_lt_length_of_mem q.2.1
  have h6:=(iF ⟨m.toNat,by omega⟩ ⟨_,h5⟩ q.2.2).2
  dsimp only at h6
  generalize 2^GK.idxOf (at' l i).s=z at h h6
  cases h
  exact⟨rfl,EZ ok h0 h1 q.1 (by decide),by omega,by omega⟩
 ·exact(CO h).elim
theorem iG{w0 wv:World}{M0 M:Mem}{Rs:List HO}{b:Nat}{v:Value}{l:List Tk}{i d:Int}(m:Int)(h:G4 w0 wv M0 M Rs b v l i d)(hm0:0<=m)(hm1:m<32):
    Calls Tryz.prog 136 [.pointer (some ⟨b,0,none⟩),i64 m].toArray wv (RG w0 M0 M Rs b v d (GL l m i) λ n=>i64 n):=by
 obtain⟨hS,hl,hg,ok,h0,h1⟩:=h
 have hfew:=ok.few
 refine B3 (Hr:=Rs) AX Tryz.func136 U Tryz.ntmps136 [(0,kn v 9 l Tk.cells)] [(0,AS b v i d)] [.bx 0 b 0,I m] U hS (fc 0 hl (λ _=>rfl) AA) (λ B hB=>?_) U
 refine EN 3 GK AW 1 9 DN U (A0 U) (by omega) U (A0 U) (λ w=>by kernel_rfl) U λ v3=>?_
 refine TU [3] U U ?_
 have hge:=Z6 l i 2 GK
 refine CF [0] (I (F1 l i 2 GK)) U (A0 U) (by omega) Tryz.call177 U U (A0 U) U (λ _ w M hS hF=>Z7 2 v3 GK ⟨hS,(hF.get (k:=0) U).sl,hg,ok,h0,h1⟩ (hF.get (k:=3) U).sl (by decide)) U ?_
 obtain⟨mn,rfl⟩: ∃mn:Nat,m=mn:=⟨m.toNat,by omega⟩
 unfold GL at hB
 rw[Int.toNat_natCast]at hB
 refine IX (I 0) U (A0 U) (by omega) U (λ h2=>?_) (λ h2=>?_)
 ·have h3: ¬F1 l i 2 GK<0:=by simpa using h2
  obtain⟨q1,q2,q3⟩:=Z5 h3
  obtain⟨kn,hkn⟩: ∃kn,kn=GK.idxOf (at' l i).s:=⟨_,rfl⟩
  have hkl:kn<5:=by rw[hkn];exact List.idxOf_lt_length_of_mem q2
  rw[<-hkn]at q3 hB
  obtain⟨q,hq⟩: ∃q,q=mn/2^kn:=⟨_,rfl⟩
  have hq32:q<32:=by rw[hq];exact Nat.lt_of_le_of_lt (Nat.div_le_self _ _) (by omega)
  refine DT (I (q:Int)) U (A0 U) (by omega) U (λ w M hX=>PV.wG (AT (v:=I (mn:Int)) (E:=[.b true _]) U (OE h2 U)) (AT (v:=I (F1 l i 2 GK)) (E:=[.b true _]) U (OE h2 U)) (λ _=>by omega) (λ _=>by rw[q3,wM _ _ hkl,hq])) ?_
  refine DT (I ((q%2:Nat):Int)) U (A0 U) (by omega) U (λ w M hX=>PV.wI (AT (v:=I (q:Int)) (E:=[]) U (A0 U)) (AT (v:=I 1) (E:=[]) U (A0 U)) (λ _=>wL ⟨q,hq32⟩)) ?_
  refine AB U (A0 U) (by omega) (λ hb1=>?_) (λ hb1=>?_)<;>simp only[zb]at hb1
  ·rw[if_neg (λ c=>by rw[<-hq]at c;omega)]at hB
   refine CF [0] (DA (at' l i)) U (A0 U) (by omega) Tryz.call41 U U (A0 U) U (λ _ w M hS hF=>DR hS (hF.get (k:=0) U).sl h0 h1) U ?_
   exact F7 [0] U (A0 U) (by omega) U Tryz.call42 U (A0 U) U (λ w M hS hF=>HP (at' l i) 1 hS) λ a w M hs hS hle=>E5 _ (hB.p ⟨M,rfl,hS.drop _ (List.sublist_cons_self _ _),hle⟩ a hs)
  have hq2:q%2=0:=by omega
  rw[if_pos ⟨q1,q2,by rw[<-hq];exact hq2⟩]at hB
  have hbo:=iF ⟨mn,by omega⟩ ⟨kn,hkl⟩ (by dsimp only;rw[<-hq];exact hq2)
  refine DT (I ((2^kn:Nat):Int)) U (A0 U) (by simp only[zb]<;>omega) U (λ w M hX=>PV.wH (AT (v:=I 1) (E:=[]) U (A0 U)) (AT (v:=I (F1 l i 2 GK)) (E:=[]) U (A0 U)) (λ _=>by omega) (λ _=>by rw[q3];exact wN ⟨kn,hkl⟩)) ?_
  refine DT (I ((mn:Int)+((2^kn:Nat):Int))) U (A0 U) (by omega) U (λ w M hX=>PV.wJ (AT (v:=I (mn:Int)) (E:=[]) U (A0 U)) (AT (v:=I ((2^kn:Nat):Int)) (E:=[]) U (A0 U)) (λ _=>hbo.1)) ?_
  exact AH hB U U (A0 U) (by omega) U (A0 U) λ w M' hX=>⟨(),M',rfl,trivial,hX.le,(hX.C5 [0] U).drop _ ((List.sublist_cons_self _ _).cons_cons _),AA⟩
 ·have h3:F1 l i 2 GK<0:=by simpa using h2
  rw[if_neg (λ c=>Z4 h3 ⟨c.1,c.2.1⟩)]at hB
  refine IX (I 0) U (A0 U) (by omega) U (λ h4=>?_) (λ h4=>?_)
  ·rw[h2]at h4;cases h4
  refine AB U (A0 U) (by simp only[zb]<;>omega) (λ hb1=>?_) (λ hb1=>?_)<;>simp only[zb]at hb1
  ·refine CF [0] (DA (at' l i)) U (A0 U) (by omega) Tryz.call41 U U (A0 U) U (λ _ w M hS hF=>DR hS (hF.get (k:=0) U).sl h0 h1) U ?_
   exact F7 [0] U (A0 U) (by omega) U Tryz.call42 U (A0 U) U (λ w M hS hF=>HP (at' l i) 1 hS) λ a w M hs hS hle=>E5 _ (hB.p ⟨M,rfl,hS.drop _ (List.sublist_cons_self _ _),hle⟩ a hs)
  ·omega
end Go.Proofs.YtmjpjbmeamnfpaaGreatDoor
