/-
  Parts L5 Fs Pb, put together and made short by wip/py/merge.py (mini.py).
-/
import Derived.Test.YtmjpjbmeamnfpaaGreatDoorZc4
import Derived.Laws.BitsLemmas
import Derived.Test.YtmjpjbmeamnfpaaGreatDoorZc3
import Derived.Test.YtmjpjbmeamnfpaaGreatDoorProg
import Derived.Test.YtmjpjbmeamnfpaaGreatDoorZc20
import Derived.Test.YtmjpjbmeamnfpaaGreatDoorZc7
import Derived.Test.YtmjpjbmeamnfpaaGreatDoorZc13
import Derived.Test.YtmjpjbmeamnfpaaGreatDoorZc6
import Derived.Test.YtmjpjbmeamnfpaaGreatDoorZc0
set_option linter.unusedVariables false
set_option linter.unusedSimpArgs false
set_option maxRecDepth 100000
namespace Go.Proofs.YtmjpjbmeamnfpaaGreatDoor
open Go.Eng
theorem yE(M:Mem)(s:A1)(w:World)(hM:Sat w M)(hg:Gl w)(hb:len s<=1099511627776):
  Calls Tryz.prog 22 [(str s)].toArray w λ e w'=> ∃v M',e= .returned v/\(∃u,v= .tuple #[u,i64 (CF s).2.1,i64 (CF s).2.2]/\Sl M' 9 (CF s).1.length u ((CF s).1.flatMap Tk.cells))/\Grow w M w' M':=by
 refine CW.BN Tryz.func22 U Tryz.ntmps22 (Nat.le_of_ble_eq_true U) λ Q hE=>?_
 have:=AA s
 have hbt:=KF s 0 (Int.le_refl 0) this
 have hS:St w M w M []:=St.start hM
 refine CW.weaken [0] (L':=[Y 0 (str s)]) ?_ U
 refine CW.sr ?_
 have hS1:=hS.K8 63 9
 replace hS1:St w M w M [.own 63 9 (.slice none 0 0) (([]:List Tk)).length ((([]:List Tk)).flatMap Tk.cells)]:=hS1
 refine RL.u (.assign .c) U (RL.u (.assign .c) U (RL.u (.assign .c) U (RL.nil (CW.id ?_))))
 refine CW.sr ?_
 refine RL.alloc hS1 Tryz.zeroValue104 U (λ w2 b3 hS4=>(RL.nil (CW.id ?_)))
 refine CW.sr ?_
 have hS5:=hS4.K8 63 9
 replace hS5:St w M w2 M [.own 63 9 (.slice none 0 0) (([]:List Tk)).length ((([]:List Tk)).flatMap Tk.cells),.box b3 [(.int .u32 0),(.int .i32 0),(.int .u32 0),(.map none)] 104,.own 63 9 (.slice none 0 0) (([]:List Tk)).length ((([]:List Tk)).flatMap Tk.cells)]:=hS5
 refine RL.u (.assign .c) U (RL.nil (CW.id ?_))
 refine CW.sr (RL.m U U ?_)
 refine RL.D5 hS5 .none Tryz.call47 (.cons (.t U) (.cons .c .nil)) (λ _=>(jX s _)) U (λ w6 hS7=>?_)
 refine RL.a U U ?_
 refine RL.nil (CW.at [Y 0 (str s),Y 5 (.pointer (some ⟨b3,0,none⟩)),Y 6 (.slice none 0 0),Y 7 (str (OO s))] U (CW.seq (CW.block ?_)))
 have hS8:=hS7.K8 9 1
 replace hS8:St w M w6 M [.own 9 1 (.slice none 0 0) (([]:List A1)).length ((([]:List A1)).flatMap B9),.own 63 9 (.slice none 0 0) (([]:List Tk)).length ((([]:List Tk)).flatMap Tk.cells),.box b3 [(.int .u32 0),(.int .i32 0),(.int .u32 0),(.map none)] 104,.own 63 9 (.slice none 0 0) (([]:List Tk)).length ((([]:List Tk)).flatMap Tk.cells)]:=hS8
 refine CW.loop (σ:=Nat×Int×A1×List Tk×Value×List Value×HO×Mem) (λ(f,i,r,acc,va,cs,X,Ml)=>[Y 0 (str s),Y 5 (.pointer (some ⟨b3,0,none⟩)),Y 6 va,Y 7 (str r)]) (λ(f,i,r,acc,va,cs,X,Ml) wl=>St w M wl Ml [X,.own 63 9 va acc.length (acc.flatMap Tk.cells),.box b3 cs 104,.own 63 9 (.slice none 0 0) (([]:List Tk)).length ((([]:List Tk)).flatMap Tk.cells)]/\0<=i/\i<=len s/\r=A4 s i/\IV f s i acc=CF s/\(len s-i).toNat<=f/\len acc<=i/\LX Ml cs X) (λ(f,i,r,acc,va,cs,X,Ml)=>(len s-i).toNat) ((s.length,DD s 0,OO s,[],.slice none 0 0,[.int .u32 0,.int .i32 0,.int .u32 0,.map none],.own 9 1 (.slice none 0 0) 0 [],M)) [0,5,6,7] U ?_ ?_
 ·refine⟨hS8,?_⟩;exact⟨by omega,by omega,fO s 0 (Int.le_refl 0),rfl,by unfold len;omega,by rw[len_nil];omega,.inl ⟨rfl,rfl⟩⟩
 ·rintro⟨f,i,r,acc,va,cs,X,Ml⟩ wl ⟨hS9,h0,h1,hr,hF,hf,hacc,hmk⟩
  have hl:=DV s i h0 h1
  have hlr:len r=len s-i:=by rw[hr];exact hl
  have hat:len s-len r=i:=by omega
  have hdr: ∀n,0<=n->OO (A4 r n)=A4 s (DD s (i+n)):=λ n hn=>by rw[hr,KH s i n h0 hn,fO _ _ (by omega)]
  refine CW.seq (CW.sr (RL.m U U (RL.u (.MF (.t U) .c) U (RL.nil (CW.id ?_)))))
  refine CW.cond rfl ?_ ?_<;>intro hb1<;>try simp only[zb]at hb1
  ·have hlt:i<len s:=by have:=HC hb1;omega
   have htb:=j8 (s:=r) (by omega)
   refine CW.skip (CW.id (CW.block (CW.sr (RL.m U U (RL.u (.BZ (.t U) Tryz.underlying9) U (RL.m U U (RL.u (.BZ (.t U) Tryz.underlying9) U (RL.u (.sub (.t U) (.t U) (λ _=>by omega)) U (RL.a U U (RL.nil (CW.id ?_)))))))))))
   refine CW.sr (RL.m U U ?_)
   replace hS9:St w M wl Ml [.box b3 cs 104,X,.own 63 9 va acc.length (acc.flatMap Tk.cells),.own 63 9 (.slice none 0 0) (([]:List Tk)).length ((([]:List Tk)).flatMap Tk.cells)]:=(hS9.front 0 U U).front 2 U U
   refine RL.DS Tryz.call48 (.cons (.t U) (.cons (.t U) .nil)) (yD (Rs:=[.own 63 9 va acc.length (acc.flatMap Tk.cells),.own 63 9 (.slice none 0 0) (([]:List Tk)).length ((([]:List Tk)).flatMap Tk.cells)]) b3 cs X r hS9 (by assumption) hg (by omega) (by omega)) U ?_
   rintro v13 w14 ⟨cs10,X11,M15,rfl,hm12,hS16,hle17⟩
   replace hS16:St w M w14 M15 [.box b3 cs10 104,X11,.own 63 9 va acc.length (acc.flatMap Tk.cells),.own 63 9 (.slice none 0 0) (([]:List Tk)).length ((([]:List Tk)).flatMap Tk.cells)]:=hS16
   refine RL.m U U (RL.u (.ex (.t U) U) U (RL.u (.ex (.t U) U) U (RL.u (.ex (.t U) U) U ?_)))
   refine RL.alloc hS16 Tryz.zeroValue63 U (λ w18 b19 hS20=>?_)
   refine RL.st hS20 (i:=0) U (.t U) (.t U) Tryz.sizeOf63 U U U U U (λ w21 hS22=>?_)
   refine RL.a U U (RL.a U U ?_)
   refine RL.nil (CW.at [Y 0 (str s),Y 5 (.pointer (some ⟨b3,0,none⟩)),Y 6 va,Y 7 (str r),Y 8 (i64 ((len s)-(len r))),Y 9 (.pointer (some ⟨b19,0,none⟩)),Y 10 (i64 ((AB r).2.1)),Y 11 (i64 ((AB r).2.2))] U (CW.seq (CW.sr (RL.m U U (RL.u (.neq (.t U) .c) U (RL.nil (CW.id ?_)))))))
   refine CW.cond rfl ?_ ?_<;>intro hb2<;>try simp only[zb]at hb2
   ·refine CW.sr (RL.m U U (RL.m U U (RL.u (.add (.t U) (.t U) (λ _=>by omega)) U (RL.m U U ?_))))
    have hS23:=hS22.K8 63 9
    replace hS23:St w M w21 M15 [.own 63 9 (.slice none 0 0) (([]:List Tk)).length ((([]:List Tk)).flatMap Tk.cells),.box b19 (qC ((AB r).1) []) 63,.box b3 cs10 104,X11,.own 63 9 va acc.length (acc.flatMap Tk.cells),.own 63 9 (.slice none 0 0) (([]:List Tk)).length ((([]:List Tk)).flatMap Tk.cells)]:=hS23
    refine RL.u (.assign .c) U (RL.a U U (RL.a U U (RL.nil (CW.id ?_))))
    refine CW.ret (hE.r3 U U U U ?_)
    have hq:CF s=([],len s-len r+(AB r).2.1,(AB r).2.2):=by rw[<-hF,PT hf hlt,<-hr,if_pos (by simpa using hb2),hat]
    exact⟨_,_,rfl,⟨_,by rw[hq],by rw[hq];exact Sl.nil _ 9⟩,hS23.done⟩
   ·have hn1:=htb.2.2.1 hb2
    have hbb:=KF s (i+(AB r).2.1) (by omega) (by omega)
    refine CW.skip (CW.id (CW.sr (RL.m U U (RL.u (.BR (q:=⟨b19,8,none⟩) (.t U) (λ w=>by kernel_rfl)) U ?_))))
    refine RL.st hS22 (i:=0) U (.t U) (.t U) Tryz.sizeOf3 U U U U U (λ w24 hS25=>(RL.nil (CW.id ?_)))
    refine CW.sr (RL.m U U (RL.u (.U5 (vs:=((i64 (((AB r).1).kind))::((str (((AB r).1).s))::(JG (((AB r).1).c) ((i64 ((len s)-(len r)))::[]))))) hS25 AX (i:=0) U (.t U) Tryz.isAgg63 Tryz.sizeOf63 U U) U ?_))
    refine RL.buildSlice (n:=1) (sz:=9) (e:=63) (vs:=[(0,(.agg ⟨((i64 (((AB r).1).kind))::((str (((AB r).1).s))::(JG (((AB r).1).c) ((i64 ((len s)-(len r)))::[]))))⟩))]) (cs:=[(i64 (((AB r).1).kind)),(str (((AB r).1).s)),(i64 (((AB r).1).c.kind)),(i64 (((AB r).1).c.many)),(str (((AB r).1).c.name)),(str (((AB r).1).c.s)),(.bool (((AB r).1).c.neg)),(i64 (((AB r).1).c.e)),(i64 ((len s)-(len r)))]) hS25 (.cons (.t U) .nil) U U (λ w=>by kernel_rfl) U (λ v26 w27 M28 hS29 hle30=>?_)
    replace hS29:St w M w27 M28 [.own 63 9 v26 (([(⟨((AB r).1).kind,((AB r).1).s,((AB r).1).c,(len s)-(len r)⟩:Tk)]:List Tk)).length ((([(⟨((AB r).1).kind,((AB r).1).s,((AB r).1).c,(len s)-(len r)⟩:Tk)]:List Tk)).flatMap Tk.cells),.box b19 ((i64 (((AB r).1).kind))::((str (((AB r).1).s))::(JG (((AB r).1).c) ((i64 ((len s)-(len r)))::[])))) 63,.box b3 cs10 104,X11,.own 63 9 va acc.length (acc.flatMap Tk.cells),.own 63 9 (.slice none 0 0) (([]:List Tk)).length ((([]:List Tk)).flatMap Tk.cells)]:=hS29
    refine RL.RD (f:=Tk.cells) (l:=acc) (y:=(⟨((AB r).1).kind,((AB r).1).s,((AB r).1).c,(len s)-(len r)⟩:Tk)) hS29 (k:=4) U (.t U) (.t U) (hS29.sl (i:=0) U) Tryz.underlying52 Tryz.type63 U U U Tk.cells_one (by':=96) U U (by omega) U (Hs':=λ v'=>[.own 63 9 v26 (([(⟨((AB r).1).kind,((AB r).1).s,((AB r).1).c,(len s)-(len r)⟩:Tk)]:List Tk)).length ((([(⟨((AB r).1).kind,((AB r).1).s,((AB r).1).c,(len s)-(len r)⟩:Tk)]:List Tk)).flatMap Tk.cells),.box b19 ((i64 (((AB r).1).kind))::((str (((AB r).1).s))::(JG (((AB r).1).c) ((i64 ((len s)-(len r)))::[])))) 63,.box b3 cs10 104,X11,.own 63 9 v' (acc++[(⟨((AB r).1).kind,((AB r).1).s,((AB r).1).c,(len s)-(len r)⟩:Tk)]).length ((acc++[(⟨((AB r).1).kind,((AB r).1).s,((AB r).1).c,(len s)-(len r)⟩:Tk)]).flatMap Tk.cells),.own 63 9 (.slice none 0 0) (([]:List Tk)).length ((([]:List Tk)).flatMap Tk.cells)]) (λ _=>rfl) (λ v31 w32 M33 hS34 hle35=>?_)
    replace hS34:=hS34.erase 0 U
    refine RL.a U U (RL.nil (CW.id ?_))
    refine CW.region (RL.m U U (RL.m U U (RL.u (.JC (.t U) (.t U) Tryz.underlying9 (λ _=>by omega)) U ?_)))
    refine RL.D5 hS34 .none Tryz.call47 (.cons (.t U) (.cons .c .nil)) (λ _=>(jX (Eng.A4 r ((AB r).2.1)) _)) U (λ w36 hS37=>?_)
    refine RL.a U U ?_
    replace hS37:St w M w36 M33 [.own 63 9 (.slice none 0 0) (([]:List Tk)).length ((([]:List Tk)).flatMap Tk.cells),.box b3 cs10 104,X11,.own 63 9 v31 (acc++[(⟨((AB r).1).kind,((AB r).1).s,((AB r).1).c,(len s)-(len r)⟩:Tk)]).length ((acc++[(⟨((AB r).1).kind,((AB r).1).s,((AB r).1).c,(len s)-(len r)⟩:Tk)]).flatMap Tk.cells)]:=(hS37.erase 0 U).front 3 U U
    replace hS37:St w M w36 M33 [.own 63 9 v31 (acc++[(⟨((AB r).1).kind,((AB r).1).s,((AB r).1).c,(len s)-(len r)⟩:Tk)]).length ((acc++[(⟨((AB r).1).kind,((AB r).1).s,((AB r).1).c,(len s)-(len r)⟩:Tk)]).flatMap Tk.cells),.box b3 cs10 104,.own 63 9 (.slice none 0 0) (([]:List Tk)).length ((([]:List Tk)).flatMap Tk.cells),X11]:=(hS37.front 1 U U).front 3 U U
    replace hS37:St w M w36 M33 [X11,.own 63 9 v31 (acc++[(⟨((AB r).1).kind,((AB r).1).s,((AB r).1).c,(len s)-(len r)⟩:Tk)]).length ((acc++[(⟨((AB r).1).kind,((AB r).1).s,((AB r).1).c,(len s)-(len r)⟩:Tk)]).flatMap Tk.cells),.box b3 cs10 104,.own 63 9 (.slice none 0 0) (([]:List Tk)).length ((([]:List Tk)).flatMap Tk.cells)]:=hS37.front 3 U U
    refine RL.nil λ a hs=>Exists.intro ((f-1,DD s (i+(AB r).2.1),OO (Eng.A4 r ((AB r).2.1)),acc++[(⟨((AB r).1).kind,((AB r).1).s,((AB r).1).c,(len s)-(len r)⟩:Tk)],v31,cs10,X11,M33)) ⟨hs.BG [0,5,6,7],?_,?_⟩
    ·refine⟨hS37,?_⟩
     exact⟨by omega,by omega,hdr _ (by omega),by rw[<-hF,PT hf hlt,<-hr,if_neg (by simpa using hb2),hat],by omega,by rw[A5,A7,len_nil];omega,LX.mono hm12 ((hle30.trans hle35))⟩
    ·show Int.toNat _<Int.toNat _;omega
  ·have hge: ¬i<len s:=by rw[hb1,len_nil]at hlr;omega
   refine CW.exit (CW.at [Y 0 (str s),Y 6 va] U ?_)
   refine CW.sr (RL.m U U (RL.m U U (RL.u (.BZ (.t U) Tryz.underlying9) U (RL.u (.build (vs:=[(0,(i64 6)),(3,(i64 (len s)))]) (v:=(.agg #[(i64 6),(str []),(i64 0),(i64 0),(str []),(str []),(.bool false),(i64 0),(i64 (len s))])) (.cons .c (.cons (.t U) .nil)) (λ w=>by kernel_rfl)) U ?_))))
   refine RL.buildSlice (n:=1) (sz:=9) (e:=63) (vs:=[(0,(.agg #[(i64 6),(str []),(i64 0),(i64 0),(str []),(str []),(.bool false),(i64 0),(i64 (len s))]))]) (cs:=[(i64 6),(str []),(i64 0),(i64 0),(str []),(str []),(.bool false),(i64 0),(i64 (len s))]) hS9 (.cons (.t U) .nil) U U (λ w=>by kernel_rfl) U (λ v38 w39 M40 hS41 hle42=>?_)
   replace hS41:St w M w39 M40 [.own 63 9 v38 (([(⟨6,[],⟨0,0,[],[],false,0⟩,len s⟩:Tk)]:List Tk)).length ((([(⟨6,[],⟨0,0,[],[],false,0⟩,len s⟩:Tk)]:List Tk)).flatMap Tk.cells),X,.own 63 9 va acc.length (acc.flatMap Tk.cells),.box b3 cs 104,.own 63 9 (.slice none 0 0) (([]:List Tk)).length ((([]:List Tk)).flatMap Tk.cells)]:=hS41
   refine RL.RD (f:=Tk.cells) (l:=acc) (y:=(⟨6,[],⟨0,0,[],[],false,0⟩,len s⟩:Tk)) hS41 (k:=2) U (.t U) (.t U) (hS41.sl (i:=0) U) Tryz.underlying52 Tryz.type63 U U U Tk.cells_one (by':=96) U U (by omega) U (Hs':=λ v'=>[.own 63 9 v38 (([(⟨6,[],⟨0,0,[],[],false,0⟩,len s⟩:Tk)]:List Tk)).length ((([(⟨6,[],⟨0,0,[],[],false,0⟩,len s⟩:Tk)]:List Tk)).flatMap Tk.cells),X,.own 63 9 v' (acc++[(⟨6,[],⟨0,0,[],[],false,0⟩,len s⟩:Tk)]).length ((acc++[(⟨6,[],⟨0,0,[],[],false,0⟩,len s⟩:Tk)]).flatMap Tk.cells),.box b3 cs 104,.own 63 9 (.slice none 0 0) (([]:List Tk)).length ((([]:List Tk)).flatMap Tk.cells)]) (λ _=>rfl) (λ v43 w44 M45 hS46 hle47=>?_)
   replace hS46:=hS46.erase 0 U
   refine RL.a U U (RL.u (.assign .c) U (RL.u (.assign .c) U (RL.nil (CW.id ?_))))
   refine CW.ret (hE.r3 U U U U ?_)
   have hq:CF s=(acc++[G4 s],0,0):=by rw[<-hF,YA hge]
   exact⟨_,_,rfl,⟨_,by rw[hq],by rw[hq];exact hS46.sl (i:=1) U⟩,hS46.done⟩
end Go.Proofs.YtmjpjbmeamnfpaaGreatDoor
namespace Go.Eng
def H5(f:Fl)(i:Int)(us:List Tf)(R:Fl):Prop:=0<=i/\f.drop i.toNat=B1 us++R
theorem Tf.N7 (u:Tf):u.flat= { u.t with many:=len u.ps}::B1 u.ps:=by cases u;rfl
theorem LY: ∀(a b:List Tf),B1 (a++b)=B1 a++B1 b
 |[],b=>rfl
 |x::a,b=>by show x.flat++B1 (a++b)=(x.flat++B1 a)++B1 b;rw[LY a b,List.append_assoc]
theorem H5.step {f:Fl}{i:Int}{u:Tf}{us:List Tf}{R:Fl}(h:H5 f i (u::us) R):i<len f/\A2 f i= { u.t with many:=len u.ps}/\H5 f (i+1) (u.ps++us) R:=by
 obtain⟨h0,h1⟩:=h
 have e:f.drop i.toNat= { u.t with many:=len u.ps}::(B1 u.ps++(B1 us++R)):=by
  rw[h1];show(u.flat++B1 us)++R=_;rw[Tf.N7];simp
 have hlt:i.toNat<f.length:=by
  rcases Nat.lt_or_ge i.toNat f.length with h|h
  ·exact h
  ·rw[List.drop_of_length_le h]at e;cases e
 refine⟨by unfold len;omega,?_,by omega,?_⟩
 ·obtain⟨h2,h3⟩:=FG f h0 (by unfold len;omega)
  rw[h3]
  have:=congrArg (·[0]?) e
  simpa[hlt]using this
 ·rw[show(i+1).toNat=i.toNat+1 by omega,<-List.drop_drop,e]
  show B1 u.ps++(B1 us++R)=_
  rw[LY,List.append_assoc]
theorem H5.aU {f:Fl}{i:Int}{us:List Tf}{R:Fl}(h:H5 f i us R)(hi:i<=len f):i+len (B1 us)+len R=len f:=by
 have:=congrArg List.length h.2
 rw[List.length_drop,List.length_append]at this
 unfold len at*
 have:=h.1;omega
theorem H5.part {f:Fl}{i j:Int}{u:Tf}{R:Fl}(h:H5 f i [u] R)(h2:H5 f j [] R)(hij:i<=j)(hj:j<=len f):Eng.sub f i j=u.flat:=by
 have h3:=h.aU (by omega)
 have h4:=h2.aU hj
 have e1:B1 [u]=u.flat:=by show u.flat++B1 []=_;simp[B1]
 have e2:len (B1 [])=0:=rfl
 rw[e1]at h3
 unfold Eng.sub
 rw[h.2,e1,show j.toNat-i.toNat=u.flat.length by have:=h.1;unfold len at*;omega]
 exact List.take_left
theorem H5.root (t:Tf):H5 t.flat 1 t.ps []:=⟨by omega,by rw[Tf.N7];show B1 t.ps=_;simp⟩
theorem H5.next {f:Fl}{i:Int}{us:List Tf}{k:Nat}(h:H5 f i (us.drop k) [])(hk:k<us.length):H5 f i [A2 us k] (B1 (us.drop (k+1))):=by
 refine⟨h.1,?_⟩
 rw[h.2]
 have e:us.drop k=A2 us (k:Int)::us.drop (k+1):=by
  obtain⟨h1,h2⟩:=FG us (i:=(k:Int)) (by omega) (by unfold len;omega)
  rw[h2]
  rw[List.drop_eq_getElem_cons hk];simp
 rw[e]
 show(A2 us (k:Int)).flat++B1 _++[]=_
 simp[B1]
theorem Tf.yF (t:Tf):(A2 t.flat 0).many=len t.ps:=by rw[Tf.N7];rfl
theorem Tf.jY (t:Tf):A2 t.flat 0= { t.t with many:=len t.ps}:=by rw[Tf.N7];rfl
theorem Tf.jZ (t:Tf):t.flat≠[]:=by rw[Tf.N7];exact List.cons_ne_nil _ _
theorem Tf.GN (t:Tf):0<len t.flat:=by rw[Tf.N7,A7];have:=AA (B1 t.ps);omega
theorem Tf.aV (t:Tf)(n:A1):(t.flat).set 0 { A2 t.flat 0 with name:=n}=(t.named n).flat:=by cases t;rfl
theorem Tf.k6 (t:Tf)(n:A1):len (t.named n).flat=len t.flat:=by cases t;rfl
theorem aW: ∀xs:List Tf,B1 xs=(xs.map Tf.flat).flatten
 |[]=>rfl
 |x::xs=>by show x.flat++B1 xs=_;rw[aW xs];rfl
theorem Tf.aX (t:Tm)(ps:List Tf):(Tf.mk t ps).flat= { t with many:=len ps}::(ps.map Tf.flat).flatten:=by rw[<-aW];rfl
theorem k7{x:Tf}: ∀ {xs:List Tf},x∈xs->len x.flat<=len (B1 xs)
 |y::xs,h=>by
  have h1:=AA y.flat
  have h2:=AA (B1 xs)
  show _<=len (y.flat++B1 xs)
  rw[A5]
  rcases List.mem_cons.1 h with rfl|h
  ·omega
  ·have:=k7 h;omega
theorem T3: ∀xs:List Tf,len xs<=len (B1 xs)
 |[]=>Int.le_refl _
 |x::xs=>by
  have h1:=x.GN
  have h2:=T3 xs
  show _<=len (x.flat++B1 xs)
  rw[A5,A7];omega
theorem Tf.aY {t:Tf}(h:t.t.name=[]):t.named []=t:=by
 obtain⟨tm,ps⟩:=t
 have h':tm.name=[]:=h
 show Tf.mk { tm with name:=[]} ps=_
 rw[<-h']
def DJ:Tf->Prop
 | .mk t [a,b]=>t.op=4->a.t.name=[]/\b.t.name=[]/\DJ b
 | .mk t _=>t.op≠4
theorem VZ{x g:Tf}(h:x.t.op≠4):EL x g= .mk (AH 4) [x,g]:=by
 obtain⟨t,ps⟩:=x
 have h':t.op≠4:=h
 unfold EL
 split
 ·rename_i t a b g h1
  cases h1
  rw[if_neg h']
 ·rfl
theorem DJ.two {x:Tf}(h:DJ x)(ho:x.t.op=4): ∃a b,x= .mk x.t [a,b]/\a.t.name=[]/\b.t.name=[]/\DJ b/\ ∀g,EL x g= .mk (AH 4) [a,EL b g]:=by
 obtain⟨t,ps⟩:=x
 have h':t.op=4:=ho
 match ps,h with
 |[a,b],h=>
  unfold DJ at h
  obtain⟨h1,h2,h3⟩:=h h'
  exact⟨a,b,rfl,h1,h2,h3,λ g=>by rw[EL,if_pos h']⟩
 |[],h=>unfold DJ at h;exact absurd h' h
 |[_],h=>unfold DJ at h;exact absurd h' h
 |_::_::_::_,h=>unfold DJ at h;exact absurd h' h
theorem DJ.no {x:Tf}(h:x.t.op≠4):DJ x:=by
 obtain⟨t,ps⟩:=x
 have h':t.op≠4:=h
 unfold DJ
 split
 ·rename_i t a b h1;cases h1;exact λ h2=>absurd h2 h'
 ·rename_i h1 h2;cases h2;exact h'
theorem Tf.OZ (a b:Tf)(t:Tm):(Tf.mk t [a,b]).flat= { t with many:=2}::(a.flat++b.flat):=by
 rw[Tf.aX];simp;rfl
theorem W0: ∀(n:Nat) (x g:Tf),x.flat.length<=n->DJ x->len (EL x g).flat=1+len x.flat+len g.flat
 |0,x,g,hn,_=>by have:=x.GN;unfold len at this;omega
 |n+1,x,g,hn,h=>by
  by_cases ho:x.t.op=4
  ·obtain⟨a,b,e,_,_,hb,hp⟩:=h.two ho
   have e2:x.flat.length=1+(a.flat.length+b.flat.length):=by rw[e,Tf.OZ];simp;omega
   have ih:=W0 n b g (by omega) hb
   rw[hp,Tf.OZ,A7,A5,ih]
   unfold len;omega
  ·rw[VZ ho,Tf.OZ,A7,A5];omega
theorem yG{x g:Tf}(hx:DJ x)(hg:DJ g)(nx:x.t.name=[])(ng:g.t.name=[]):DJ (EL x g)/\(EL x g).t.name=[]:=by
 have key: ∀(n:Nat) (x:Tf),x.flat.length<=n->DJ x->x.t.name=[]->DJ (EL x g)/\(EL x g).t.name=[]:=by
  intro n
  induction n with
  |zero=>intro x hn;have:=x.GN;unfold len at this;omega
  |succ n ih=>
   intro x hn h nx
   by_cases ho:x.t.op=4
   ·obtain⟨a,b,e,na,nb,hb,hp⟩:=h.two ho
    have e2:x.flat.length=1+(a.flat.length+b.flat.length):=by rw[e,Tf.OZ];simp;omega
    obtain⟨h1,h2⟩:=ih b (by omega) hb nb
    rw[hp]
    exact⟨by unfold DJ;exact λ _=>⟨na,h2,h1⟩,rfl⟩
   ·rw[VZ ho]
    exact⟨by unfold DJ;exact λ _=>⟨nx,ng,hg⟩,rfl⟩
 exact key _ x (Nat.le_refl _) hx nx
theorem aZ: ∀ {xs:List Tf},xs≠[]->(∀x∈xs,DJ x/\x.t.name=[])->DJ (DW xs)/\(DW xs).t.name=[]
 |[],h,_=>absurd U h
 |[x],_,h=>h x (.head _)
 |x::y::l,_,h=>by
  obtain⟨h1,h2⟩:=h x (.head _)
  obtain⟨h3,h4⟩:=aZ (xs:=y::l) (List.cons_ne_nil _ _) λ z hz=>h z (.tail _ hz)
  exact yG h1 h3 h2 h4
theorem yH{xs:List Tf}{k:Nat}(h:k+1<xs.length):DW (xs.drop k)=EL (A2 xs (k:Int)) (DW (xs.drop (k+1))):=by
 obtain⟨h1,h2⟩:=FG xs (i:=(k:Int)) (by omega) (by unfold len;omega)
 rw[h2]
 have e1:=List.drop_eq_getElem_cons (l:=xs) (i:=k) (by omega)
 have e2:=List.drop_eq_getElem_cons (l:=xs) (i:=k+1) h
 rw[e1,e2]
 rfl
theorem W3: ∀ {xs:List Tf},xs≠[]->(∀x∈xs,DJ x)->len (DW xs).flat<=2*len (B1 xs)/\len (DW xs).flat+1<=len xs+len (B1 xs)
 |[],h,_=>absurd U h
 |[x],_,_=>by
  have:=x.GN
  show len x.flat<=2*len (x.flat++[])/\len x.flat+1<=1+len (x.flat++[])
  rw[List.append_nil];omega
 |x::y::l,_,h=>by
  have ih:=W3 (xs:=y::l) (List.cons_ne_nil _ _) λ z hz=>h z (.tail _ hz)
  have:=W0 _ x (DW (y::l)) (Nat.le_refl _) (h x (.head _))
  have hx:=x.GN
  show len (EL x (DW (y::l))).flat<=2*len (x.flat++B1 (y::l))/\len (EL x (DW (y::l))).flat+1<=len (x::y::l)+len (x.flat++B1 (y::l))
  rw[this,A5,A7 x];omega
theorem k8{α:Type}[Inhabited α](l:List α)(x:α){i:Int}(h:i=len l):A2 (l++[x]) i=x:=by
 subst h
 unfold A2 len;simp
theorem yI{α:Type}[Inhabited α](l m:List α){i:Int}(h0:0<=i)(h1:i<len l):A2 (l++m) i=A2 l i:=by
 unfold A2 len at*
 simp only[List.getD]
 rw[List.getElem?_append_left (by omega)]
theorem yJ{α β:Type}[Inhabited α][Inhabited β](f:α->β)(l:List α){i:Int}(h0:0<=i)(h1:i<len l):A2 (l.map f) i=f (A2 l i):=by
 obtain⟨h2,h3⟩:=FG l h0 h1
 obtain⟨h4,h5⟩:=FG (l.map f) h0 (by unfold len at*;simpa using h1)
 rw[h3,h5];simp
theorem yK{α:Type}(l:List α)(x:α):Eng.sub (l++[x]) 0 (len (l++[x])-1)=l:=by
 unfold Eng.sub len
 simp
theorem yL(xs:List Tf)(k:Nat):len (B1 (xs.drop k))<=len (B1 xs):=by
 conv=>rhs;rw[<-List.take_append_drop k xs,LY,A5]
 have:=AA (B1 (xs.take k));omega
end Go.Eng
namespace Go.Eng
structure IE (l:List Tk):Prop where
 last: ∀i,0<=i->i<len l->(A2 l i).kind≠6->i+1<len l
 I3: ∀t∈l,t.kind=5-> ∀b∈t.c.s,C7 b=true
 num: ∀t∈l,t.kind=5->len t.c.s<=1048576/\t.c.e<=1000000000
 bd: ∀t∈l,len t.s<=1048576
 E9:len l<=1048576
theorem CB{α β:Type}{r:PR α}{k:α->Int->PR β}{y:β}{m:Int}(h:r.bind k= .ok y m): ∃x j,r= .ok x j/\k x j= .ok y m:=by
 cases r with
 |er c p=>cases h
 |ok x j=>exact⟨x,j,rfl,h⟩
theorem DK{α:Type}{l:List Tk}{i e:Int}{x:α}{j:Int}(h:CG l i e= .ok x j):False:=by cases h
section
variable {l:List Tk} (hl:IE l) {i:Int} (h0:0<=i) (h1:i<len l)
include hl h0 h1
theorem GO{m:A1}(h:AL l i m=true):i+1<len l:=hl.last i h0 h1 λ e=>by
 unfold AL at h;rw[e]at h;simp at h
theorem IF{k:Int}(h:(A2 l i).kind=k)(hk:k≠6):i+1<len l:=hl.last i h0 h1 λ e=>hk (by rw[<-h,e])
theorem GB{m:A1}{u:Unit}{j:Int}(h:BV l i m= .ok u j):j=i+1/\j<len l/\AL l i m=true:=by
 unfold BV at h
 split at h
 ·rename_i hm;cases h;exact⟨rfl,GO hl h0 h1 hm,hm⟩
 ·exact(DK h).elim
theorem O3{d:Int}{m:A1}{u:Unit}{j:Int}(h:F2 l d i m= .ok u j):j=i+1/\j<len l/\d<64/\AL l i m=true:=by
 unfold F2 at h
 split at h
 ·exact(DK h).elim
 ·rename_i hd
  obtain⟨h2,h3,h4⟩:=GB hl h0 h1 h
  refine⟨h2,h3,?_,h4⟩
  rw[h4]at hd;simp at hd;exact hd
theorem N8{α:Type}{d:Int}{X:Int->PR α}{x:α}{m:Int}(h:D1 l d i X= .ok x m):i+1<len l/\d<64/\ ∃k,X (i+1)= .ok x k/\(0<=k->k<len l->m=k+1/\m<len l):=by
 unfold D1 at h
 obtain⟨u,j,h2,h3⟩:=CB h
 obtain⟨rfl,h4,h5,_⟩:=O3 hl h0 h1 h2
 obtain⟨y,k,h6,h7⟩:=CB h3
 obtain⟨v,m',h8,h9⟩:=CB h7
 cases h9
 exact⟨h4,h5,k,h6,λ k0 k1=>by obtain⟨e,h10,_⟩:=GB hl k0 k1 h8;exact⟨e,h10⟩⟩
theorem T4{x:Int}{j:Int}(h:FL l i= .ok x j):j=i+1/\j<len l/\x<=1000000/\(A2 l i).kind=5:=by
 unfold FL at h
 split at h
 ·exact(DK h).elim
 ·rename_i hc
  split at h
  ·exact(DK h).elim
  ·cases h
   have h5:(A2 l i).kind=5:=Decidable.byContradiction λ e=>hc (.inl e)
   exact⟨rfl,IF hl h0 h1 h5 (by decide),by omega,h5⟩
structure ED (l:List Tk) (i:Int) (x:Tf) (j:Int):Prop where
 lt:i<j
 le:j<len l
 pipe:DJ x
 name:x.t.name=[]
 size:len x.flat<=4*(j-i)
omit hl h0 h1 in
theorem Tf.O4 (t:Tm):len (Tf.mk t []).flat=1:=by rw[Tf.aX];rfl
omit hl h0 h1 in
theorem ED.leaf {t:Tm}{j:Int}(ho:t.op≠4)(hn:t.name=[])(h2:i<j)(h3:j<len l):ED l i (.mk t []) j:=⟨h2,h3,.no ho,hn,by rw[Tf.O4];omega⟩
theorem k9{x:Tf}{j:Int}(hk:(A2 l i).kind=3\/AL l i [91]=true)(h:HK l i= .ok x j):ED l i x j/\len x.flat=1:=by
 unfold HK at h
 split at h
 ·rename_i h3
  cases h
  exact⟨.leaf (by show(1:Int)≠4;decide) U (by omega) (IF hl h0 h1 h3 (by decide)),Tf.O4 _⟩
 ·rename_i h3
  have hm:=hk.resolve_left h3
  have h4:=GO hl h0 h1 hm
  obtain⟨n,k,h5,h6⟩:=CB h
  obtain⟨rfl,h7,_,_⟩:=T4 hl (by omega) h4 h5
  split at h6
  ·rename_i h8
   have h9:=GO hl (by omega) h7 h8
   obtain⟨u,m,h10,h11⟩:=CB h6
   cases h11
   obtain⟨rfl,h12,_⟩:=GB hl (by omega) h9 h10
   exact⟨.leaf (by show(3:Int)≠4;decide) U (by omega) h12,Tf.O4 _⟩
  ·obtain⟨u,m,h10,h11⟩:=CB h6
   cases h11
   obtain⟨rfl,h12,_⟩:=GB hl (by omega) h7 h10
   exact⟨.leaf (by show(2:Int)≠4;decide) U (by omega) h12,Tf.O4 _⟩
structure LZ (xs:List Tf) (i i0:Int):Prop where
 pipe: ∀x∈xs,DJ x/\x.t.name=[]
 size:len (B1 xs)+len xs<=4*(i-i0)+1
omit hl h0 h1 in
theorem LZ.piped {xs:List Tf}{i0:Int}(h:LZ xs i i0)(hn:xs≠[])(h2:i0<i)(h3:i<len l):ED l i0 (DW xs) i:=by
 obtain⟨h4,h5⟩:=aZ hn h.pipe
 have h6:=(W3 hn λ x hx=>(h.pipe x hx).1).2
 exact⟨h2,h3,h4,h5,by have:=h.size;omega⟩
omit hl h0 h1 in
theorem W4(xs:List Tf)(x:Tf):len (B1 (xs++[x]))=len (B1 xs)+len x.flat:=by
 rw[LY,A5];show _+len (x.flat++[])=_;rw[List.append_nil]
omit hl h0 h1 in
theorem LZ.snoc {xs:List Tf}{i0 j:Int}{x:Tf}(h:LZ xs i i0)(hx:DJ x)(hn:x.t.name=[])(hs:len x.flat+1<=4*(j-i)):LZ (xs++[x]) j i0:=
 ⟨λ y hy=>by
  rcases List.mem_append.1 hy with hy|hy
  ·exact h.pipe y hy
  ·rw[List.mem_singleton]at hy;subst hy;exact⟨hx,hn⟩,by rw[W4,A5];have:=h.size;show _+(len xs+1)<=_;omega⟩
omit h0 h1 in
theorem b6{i0:Int}: ∀(f:Nat) (xs:List Tf) (i:Int) {x:Tf} {j:Int},0<=i->i<len l->i0<i->LZ xs i i0->(xs=[]->(A2 l i).kind=3\/AL l i [91]=true)->I7 f l xs i= .ok x j->ED l i0 x j
 |0,xs,i,x,j,_,_,_,_,_,h=>(DK h).elim
 |f+1,xs,i,x,j,h0,h1,hi,hg,hx,h=>by
  unfold I7 at h
  split at h
  ·rename_i hc
   obtain⟨y,k,h2,h3⟩:=CB h
   obtain⟨h4,h5⟩:=k9 hl h0 h1 hc h2
   exact b6 f (xs++[y]) k (by have:=h4.lt;omega) h4.le (by have:=h4.lt;omega) (hg.snoc h4.pipe h4.name (by have:=h4.lt;omega)) (by simp) h3
  ·rename_i hc
   cases h
   exact hg.piped (λ e=>hc (hx e)) hi h1
def O5(xs:List Sp):Prop:=len xs<=20/\ ∀s∈xs,len s.name<=1048576/\(s.part=true->0<=s.n/\s.n<=1000000)
omit hl h0 h1 in
theorem kA{l:List Tk}(hl:IE l){i:Int}(h0:0<=i)(h1:i<len l)(h5:(A2 l i).kind=5):0<=KJ (A2 l i):=by
 have h2:=hl.I3 _ (at_mem h0 h1) h5
 have key: ∀(s:A1) (n:Int),(∀b∈s,C7 b=true)->0<=n->0<=s.foldl (λ n c=>10*n+((c.toNat:Int)-48)) n:=by
  intro s
  induction s with
  |nil=>intro n _ h;exact h
  |cons a s ih=>
   intro n h hn
   have ha:=h a (by simp)
   unfold C7 BM at ha
   simp only[Bool.and_eq_true,decide_eq_true_eq]at ha
   exact ih _ (λ b hb=>h b (by simp[hb])) (show(0:Int)<=10*n+((a.toNat:Int)-48) by omega)
 unfold KJ NT
 refine key _ 0 (λ b hb=>?_) (by omega)
 rcases List.mem_append.1 hb with hb|hb
 ·exact h2 b hb
 ·rw[(List.mem_replicate.1 hb).2];decide
omit hl h0 h1 in
theorem yM{l:List Tk}(hl:IE l){i:Int}(h0:0<=i)(h1:i<len l){n j:Int}(h2:FL l i= .ok n j):0<=n:=by
 have h7:=(T4 hl h0 h1 h2).2.2.2
 unfold FL at h2
 split at h2
 ·exact(DK h2).elim
 ·split at h2
  ·exact(DK h2).elim
  ·cases h2;exact kA hl h0 h1 h7
omit h0 h1 in
theorem W5{dot:Bool}: ∀(f:Nat) (xs:List Sp) (i:Int) {ys:List Sp} {j:Int},0<=i->i<len l->O5 xs->GX dot f l xs i= .ok ys j->i<=j/\j<len l/\O5 ys
 |0,xs,i,ys,j,_,_,_,h=>(DK h).elim
 |f+1,xs,i,ys,j,h0,h1,hg,h=>by
  unfold GX at h
  split at h
  ·rename_i hc
   split at h
   ·exact(DK h).elim
   ·rename_i h20
    have h21:len xs<20:=by have:=hg.1;omega
    split at h
    ·rename_i hk
     have h4:=IF hl h0 h1 hk (by decide)
     obtain⟨n,k,h2,h3⟩:=CB h
     obtain⟨rfl,h5,h6,h7⟩:=T4 hl (by omega) h4 h2
     obtain⟨u,m,h8,h9⟩:=CB h3
     obtain⟨rfl,h10,_⟩:=GB hl (by omega) h5 h8
     have hn:0<=n:=by
      unfold FL at h2
      split at h2
      ·exact(DK h2).elim
      ·split at h2
       ·exact(DK h2).elim
       ·cases h2;exact kA hl (by omega) h4 h7
     obtain⟨k1,k2,k3⟩:=W5 f _ _ (by omega) h10 ⟨by rw[A5];show len xs+1<=20;omega,λ s hs=>by
      rcases List.mem_append.1 hs with hs|hs
      ·exact hg.2 s hs
      ·rw[List.mem_singleton]at hs;subst hs;exact⟨(by show len ([]:A1)<=1048576;decide),λ _=>⟨hn,h6⟩⟩⟩ h9
     exact⟨by omega,k2,k3⟩
    ·rename_i hk
     have h4:i+1<len l:=by
      rcases hc with hm|⟨hm,_⟩
      ·exact GO hl h0 h1 hm
      ·exact IF hl h0 h1 hm (by decide)
     obtain⟨k1,k2,k3⟩:=W5 f _ _ (by omega) h4 ⟨by rw[A5];show len xs+1<=20;omega,λ s hs=>by
      rcases List.mem_append.1 hs with hs|hs
      ·exact hg.2 s hs
      ·rw[List.mem_singleton]at hs;subst hs;exact⟨hl.bd _ (at_mem h0 h1),λ e=>by cases e⟩⟩ h
     exact⟨by omega,k2,k3⟩
  ·cases h;exact⟨Int.le_refl _,h1,hg⟩
omit hl h0 h1 in
theorem O5.nil:O5 []:=⟨by decide,λ s hs=>by cases hs⟩
theorem W6{q:A1->A1}{s:A1}{j:Int}(h:G5 q l i= .ok s j):i<=j/\j<len l:=by
 unfold G5 at h
 split at h
 ·rename_i hm
  have h2:=GO hl h0 h1 hm
  obtain⟨xs,k,h3,h4⟩:=CB h
  cases h4
  obtain⟨k1,k2,_⟩:=W5 hl _ _ _ (by omega) h2 .nil h3
  exact⟨by omega,k2⟩
 ·split at h
  ·exact(DK h).elim
  ·obtain⟨xs,k,h3,h4⟩:=CB h
   cases h4
   obtain⟨k1,k2,_⟩:=W5 hl _ _ _ h0 h1 .nil h3
   exact⟨k1,k2⟩
theorem kB{c:Nd}{j:Int}(h:GY l i= .ok c j):j=i+1/\j<len l:=by
 unfold GY at h
 split at h
 ·rename_i hk;cases h;exact⟨rfl,IF hl h0 h1 hk (by decide)⟩
 ·split at h
  ·rename_i hk;cases h;exact⟨rfl,IF hl h0 h1 hk (by decide)⟩
  ·split at h
   ·rename_i hk;cases h;exact⟨rfl,IF hl h0 h1 hk.1 (by decide)⟩
   ·exact(DK h).elim
theorem yN{q:A1->A1}{x:Tf}{j:Int}(h:MO q l i= .ok x j):ED l i x j:=by
 unfold MO at h
 obtain⟨s,k,h2,h3⟩:=CB h
 obtain⟨h4,h5⟩:=W6 hl h0 h1 h2
 split at h3
 ·rename_i hk
  have h6:=IF hl (by omega) h5 hk.1 (by decide)
  obtain⟨c,m,h7,h8⟩:=CB h3
  cases h8
  obtain⟨rfl,h9⟩:=kB hl (by omega) h6 h7
  exact .leaf (by show(16:Int)≠4;decide) U (by omega) h9
 ·exact(DK h3).elim
end
section
variable {l:List Tk} (hl:IE l) (q:A1->A1)
structure T5 (xs:List Tf) (i i0:Int):Prop where
 size:len (B1 xs)<=4*(i-i0)
theorem T5.snoc {xs:List Tf}{i i0 j:Int}{x:Tf}(h:T5 xs i i0)(hs:len x.flat<=4*(j-i)):T5 (xs++[x]) j i0:=⟨by rw[W4];have:=h.size;omega⟩
theorem Tf.M5 (t:Tm)(xs:List Tf):len (Tf.mk t xs).flat=1+len (B1 xs):=by rw[Tf.N7,A7];show len (B1 xs)+1=_;omega
theorem O6(x:Tf):len (B1 [x])=len x.flat:=by show len (x.flat++[])=_;rw[List.append_nil]
theorem W7(x y:Tf):len (B1 [x,y])=len x.flat+len y.flat:=by show len (x.flat++(y.flat++[]))=_;rw[List.append_nil,A5]
structure yO (l:List Tk) (q:A1->A1) (f:Nat):Prop where
 fil: ∀d i x j,0<=i->i<len l->EM q f l d i= .ok x j->ED l i x j
 pip: ∀d xs i i0 x j,0<=i->i<len l->i0<i->xs≠[]->LZ xs i i0->HM q f l d xs i= .ok x j->ED l i0 x j
 pos: ∀d i x j,0<=i->i<len l->EC q f l d i= .ok x j->ED l i x j
 pri: ∀d i x j,0<=i->i<len l->GZ q f l d i= .ok x j->ED l i x j
 wor: ∀d i x j,0<=i->i<len l->(A2 l i).kind=2->G6 q f l d i= .ok x j->ED l i x j
 obs: ∀d xs i i0 x j,0<=i->i<len l->i0<i->T5 xs i (i0+1)->IZ q f l d xs i= .ok x j->ED l i0 x j
 lis: ∀d xs i i0 x j,0<=i->i<len l->i0<i->T5 xs i (i0+1)->J0 q f l d xs i= .ok x j->ED l i0 x j
 eit: ∀d i x j,0<=i->i<len l->G7 q f l d i= .ok x j->ED l i x j
 eis: ∀d x i i0 y j,0<=i->i<len l->ED l i0 x i->JM q f l d x i= .ok y j->ED l i0 y j
 bot: ∀d i x j,0<=i->i<len l->J1 q f l d i= .ok x j->ED l i x j
 bos: ∀d x i i0 y j,0<=i->i<len l->ED l i0 x i->JN q f l d x i= .ok y j->ED l i0 y j
 sin: ∀d i x j,0<=i->i<len l->GM q f l d i= .ok x j->ED l i x j
include hl in
theorem EY: ∀f,yO l q f
 |0=>⟨λ _ _ _ _ _ _ h=>(DK h).elim,λ _ _ _ _ _ _ _ _ _ _ _ h=>(DK h).elim,λ _ _ _ _ _ _ h=>(DK h).elim,λ _ _ _ _ _ _ h=>(DK h).elim,λ _ _ _ _ _ _ _ h=>(DK h).elim,λ _ _ _ _ _ _ _ _ _ _ h=>(DK h).elim,
   λ _ _ _ _ _ _ _ _ _ _ h=>(DK h).elim,λ _ _ _ _ _ _ h=>(DK h).elim,λ _ _ _ _ _ _ _ _ _ h=>(DK h).elim,λ _ _ _ _ _ _ h=>(DK h).elim,λ _ _ _ _ _ _ _ _ _ h=>(DK h).elim,λ _ _ _ _ _ _ h=>(DK h).elim⟩
 |f+1=>by
  have ih:=EY f
  constructor
  ·intro d i x j h0 h1 h
   unfold EM at h
   obtain⟨y,k,h2,h3⟩:=CB h
   have g:=ih.pos d i y k h0 h1 h2
   exact ih.pip d [y] k i x j (by have:=g.lt;omega) g.le g.lt (by simp) ⟨λ z hz=>by rw[List.mem_singleton]at hz;subst hz;exact⟨g.pipe,g.name⟩,by rw[O6];have:=g.size;show _+1<=_;omega⟩ h3
  ·intro d xs i i0 x j h0 h1 hi hn hg h
   unfold HM at h
   split at h
   ·rename_i hm
    have h4:=GO hl h0 h1 hm
    obtain⟨y,k,h2,h3⟩:=CB h
    have g:=ih.pos d (i+1) y k (by omega) h4 h2
    exact ih.pip d (xs++[y]) k i0 x j (by have:=g.lt;omega) g.le (by have:=g.lt;omega) (by simp) (hg.snoc g.pipe g.name (by have:=g.size;have:=g.lt;omega)) h3
   ·cases h;exact hg.piped hn hi h1
  ·intro d i x j h0 h1 h
   unfold EC at h
   obtain⟨y,k,h2,h3⟩:=CB h
   have g:=ih.pri d i y k h0 h1 h2
   have hk:=g.lt
   split at h3
   ·rename_i hc
    rw[Bool.and_eq_true]at hc
    exact b6 hl _ [] k (by omega) g.le hk ⟨λ z hz=>(by cases hz),(by show(0:Int)+0<=_;omega)⟩ (λ _=>.inr hc.2) h3
   ·exact b6 hl _ [y] k (by omega) g.le hk ⟨λ z hz=>by rw[List.mem_singleton]at hz;subst hz;exact⟨g.pipe,g.name⟩,by rw[O6];have:=g.size;show _+1<=_;omega⟩ (λ e=>by cases e) h3
  ·intro d i x j h0 h1 h
   unfold GZ at h
   split at h
   ·rename_i hm;cases h;exact .leaf (by show(0:Int)≠4;decide) rfl (by omega) (GO hl h0 h1 hm)
   ·split at h
    ·rename_i hk;cases h;exact .leaf (by show(1:Int)≠4;decide) rfl (by omega) (IF hl h0 h1 hk (by decide))
    ·split at h
     ·rename_i hk;exact ih.wor d i x j h0 h1 hk h
     ·split at h
      ·obtain⟨u,k,h2,h3⟩:=CB h
       obtain⟨rfl,h4,_⟩:=O3 hl h0 h1 h2
       exact ih.obs (d+1) [] (i+1) i x j (by omega) h4 (by omega) ⟨by show(0:Int)<=_;omega⟩ h3
      ·split at h
       ·obtain⟨u,k,h2,h3⟩:=CB h
        obtain⟨rfl,h4,_⟩:=O3 hl h0 h1 h2
        exact ih.lis (d+1) [] (i+1) i x j (by omega) h4 (by omega) ⟨by show(0:Int)<=_;omega⟩ h3
       ·obtain⟨h4,_,k,h2,h3⟩:=N8 hl h0 h1 h
        have g:=ih.fil (d+1) (i+1) x k (by omega) h4 h2
        have:=g.lt
        obtain⟨rfl,h5⟩:=h3 (by omega) g.le
        exact⟨by omega,h5,g.pipe,g.name,by have:=g.size;omega⟩
  ·intro d i x j h0 h1 hk2 h
   have h2:=IF hl h0 h1 hk2 (by decide)
   unfold G6 at h
   split at h
   ·rename_i o ho
    cases h
    refine .leaf ?_ U (by omega) h2
    show o≠4
    unfold LH at ho
    split at ho
    ·cases ho;decide
    ·split at ho
     ·cases ho;decide
     ·split at ho
      ·cases ho;decide
      ·cases ho
   ·split at h
    ·rename_i o ho
     obtain⟨h4,_,k,h5,h3⟩:=N8 hl (by omega) h2 h
     obtain⟨s,m,h6,h7⟩:=CB h5
     cases h7
     obtain⟨h8,h9⟩:=W6 hl (by omega) h4 h6
     obtain⟨rfl,h10⟩:=h3 (by omega) h9
     refine .leaf ?_ U (by omega) h10
     show o≠4
     unfold JL at ho
     split at ho
     ·cases ho;decide
     ·split at ho
      ·cases ho;decide
      ·split at ho
       ·cases ho;decide
       ·cases ho
    ·have key: ∀(X:Int->PR Tf) (y:Tf) (m:Int),(∀z k,X (i+1+1)= .ok z k->ED l (i+1+1) z k)->D1 l d (i+1) X= .ok y m->i+1+1<m-1/\m<len l/\DJ y/\y.t.name=[]/\len y.flat<=4*(m-1-(i+1+1)):=by
      intro X y m hX hc
      by_cases h11:i+1+1<len l
      ·obtain⟨h4,_,k,h5,h3⟩:=N8 hl (by omega) h2 hc
       have g:=hX y k h5
       have:=g.lt
       obtain⟨rfl,h12⟩:=h3 (by omega) g.le
       exact⟨by omega,h12,g.pipe,g.name,by have:=g.size;omega⟩
      ·obtain⟨h4,_⟩:=N8 hl (by omega) h2 hc
       omega
     have wrap: ∀(o:Int) (y:Tf) (m:Int),o≠4->(i+1+1<m-1/\m<len l/\DJ y/\y.t.name=[]/\len y.flat<=4*(m-1-(i+1+1)))->ED l i (.mk (AH o) [y]) m:=λ o y m ho ⟨a1,a2,a3,a4,a5⟩=>⟨by omega,a2,.no ho,rfl,by rw[Tf.M5,O6];omega⟩
     have hin:i+1+1<len l\/ ¬i+1+1<len l:=by omega
     split at h
     ·obtain⟨y,m,h3,h4⟩:=CB h
      cases h4
      exact wrap 5 y _ (by decide) (key _ y _ (λ z k hz=>by
       rcases hin with hin|hin
       ·exact ih.fil (d+1) _ z k (by omega) hin hz
       ·obtain⟨h4,_⟩:=N8 hl (by omega) h2 h3;omega) h3)
     ·split at h
      ·obtain⟨y,m,h3,h4⟩:=CB h
       cases h4
       exact wrap 6 y _ (by decide) (key _ y _ (λ z k hz=>by
        rcases hin with hin|hin
        ·exact ih.fil (d+1) _ z k (by omega) hin hz
        ·obtain⟨h4,_⟩:=N8 hl (by omega) h2 h3;omega) h3)
      ·split at h
       ·obtain⟨y,m,h3,h4⟩:=CB h
        cases h4
        obtain⟨a1,a2,a3,a4,a5⟩:=key _ y _ (λ z k hz=>by
         rcases hin with hin|hin
         ·exact ih.fil (d+1) _ z k (by omega) hin hz
         ·obtain⟨h4,_⟩:=N8 hl (by omega) h2 h3;omega) h3
        have hgl: ∀z∈[Tf.mk (AH 10) [],Tf.mk (AH 5) [y],Tf.mk (AH 11) []],DJ z/\z.t.name=[]:=by
         intro z hz
         rcases List.mem_cons.1 hz with rfl|hz
         ·exact⟨.no (by show(10:Int)≠4;decide),rfl⟩
         ·rcases List.mem_cons.1 hz with rfl|hz
          ·exact⟨.no (by show(5:Int)≠4;decide),rfl⟩
          ·rw[List.mem_singleton]at hz;subst hz;exact⟨.no (by show(11:Int)≠4;decide),rfl⟩
        obtain⟨b1,b2⟩:=aZ (List.cons_ne_nil _ _) hgl
        have b3:=(W3 (List.cons_ne_nil _ _) λ z hz=>(hgl z hz).1).2
        have b4:len (B1 [Tf.mk (AH 10) [],Tf.mk (AH 5) [y],Tf.mk (AH 11) []])=3+len y.flat:=by
         show len ((Tf.mk (AH 10) []).flat++((Tf.mk (AH 5) [y]).flat++((Tf.mk (AH 11) []).flat++[])))=_
         rw[A5,A5,A5,Tf.O4,Tf.O4,Tf.M5,O6]
         show _+(_+(1+0))=_;omega
        refine⟨by omega,a2,b1,b2,?_⟩
        rw[b4]at b3
        have b5:len [Tf.mk (AH 10) [],Tf.mk (AH 5) [y],Tf.mk (AH 11) []]=3:=rfl
        omega
       ·split at h
        ·obtain⟨y,m,h3,h4⟩:=CB h
         cases h4
         exact wrap 7 y _ (by decide) (key _ y _ (λ z k hz=>by
          rcases hin with hin|hin
          ·exact ih.eit (d+1) _ z k (by omega) hin hz
          ·obtain⟨h4,_⟩:=N8 hl (by omega) h2 h3;omega) h3)
        ·exact(DK h).elim
  ·intro d xs i i0 x j h0 h1 hi hg h
   unfold IZ at h
   split at h
   ·rename_i hm
    cases h
    exact⟨by omega,GO hl h0 h1 hm,.no (by show(8:Int)≠4;decide),rfl,by rw[Tf.M5];have:=hg.size;omega⟩
   ·obtain⟨u,k,h2,h3⟩:=CB h
    have hk:i<=k/\k<len l:=by
     split at h2
     ·cases h2;exact⟨Int.le_refl _,h1⟩
     ·obtain⟨rfl,h4,_⟩:=GB hl h0 h1 h2;exact⟨by omega,h4⟩
    split at h3
    ·exact(DK h3).elim
    ·rename_i hc
     have h4:k+1<len l:=hl.last k (by omega) hk.2 λ e=>hc (.inl ⟨by rw[e];decide,by rw[e];decide⟩)
     obtain⟨v,m,h5,h6⟩:=CB h3
     obtain⟨rfl,h7,_⟩:=GB hl (by omega) h4 h5
     obtain⟨y,n,h8,h9⟩:=CB h6
     have g:=ih.pos d _ y n (by omega) h7 h8
     have:=g.lt
     exact ih.obs d _ n i0 x j (by omega) g.le (by omega) (hg.snoc (by rw[Tf.k6];have:=g.size;omega)) h9
  ·intro d xs i i0 x j h0 h1 hi hg h
   unfold J0 at h
   split at h
   ·rename_i hm
    cases h
    exact⟨by omega,GO hl h0 h1 hm,.no (by show(9:Int)≠4;decide),rfl,by rw[Tf.M5];have:=hg.size;omega⟩
   ·obtain⟨u,k,h2,h3⟩:=CB h
    have hk:i<=k/\k<len l:=by
     split at h2
     ·cases h2;exact⟨Int.le_refl _,h1⟩
     ·obtain⟨rfl,h4,_⟩:=GB hl h0 h1 h2;exact⟨by omega,h4⟩
    obtain⟨y,n,h8,h9⟩:=CB h3
    have g:=ih.pos d _ y n (by omega) hk.2 h8
    have:=g.lt
    exact ih.lis d _ n i0 x j (by omega) g.le (by omega) (hg.snoc (by have:=g.size;omega)) h9
  ·intro d i x j h0 h1 h
   unfold G7 at h
   obtain⟨y,k,h2,h3⟩:=CB h
   have g:=ih.bot d i y k h0 h1 h2
   exact ih.eis d y k i x j (by have:=g.lt;omega) g.le g h3
  ·intro d x i i0 y j h0 h1 hg h
   unfold JM at h
   split at h
   ·rename_i hm
    have h4:i+1<len l:=hl.last i h0 h1 λ e=>by unfold DF at hm;rw[e]at hm;simp at hm
    obtain⟨z,k,h2,h3⟩:=CB h
    have g:=ih.bot d (i+1) z k (by omega) h4 h2
    have h5:=g.lt
    have h6:=hg.lt
    refine ih.eis d _ k i0 y j (by omega) g.le ⟨by omega,g.le,.no (by show(18:Int)≠4;decide),rfl,?_⟩ h3
    rw[Tf.M5,W7];have:=g.size;have:=hg.size;omega
   ·cases h;exact hg
  ·intro d i x j h0 h1 h
   unfold J1 at h
   obtain⟨y,k,h2,h3⟩:=CB h
   have g:=ih.sin d i y k h0 h1 h2
   exact ih.bos d y k i x j (by have:=g.lt;omega) g.le g h3
  ·intro d x i i0 y j h0 h1 hg h
   unfold JN at h
   split at h
   ·rename_i hm
    have h4:i+1<len l:=hl.last i h0 h1 λ e=>by unfold DF at hm;rw[e]at hm;simp at hm
    obtain⟨z,k,h2,h3⟩:=CB h
    have g:=ih.sin d (i+1) z k (by omega) h4 h2
    have h5:=g.lt
    have h6:=hg.lt
    refine ih.bos d _ k i0 y j (by omega) g.le ⟨by omega,g.le,.no (by show(17:Int)≠4;decide),rfl,?_⟩ h3
    rw[Tf.M5,W7];have:=g.size;have:=hg.size;omega
   ·cases h;exact hg
  ·intro d i x j h0 h1 h
   unfold GM at h
   split at h
   ·exact yN hl h0 h1 h
   ·obtain⟨u,k,h2,h3⟩:=CB h
    obtain⟨rfl,h4,_⟩:=O3 hl h0 h1 h2
    obtain⟨y,m,h5,h6⟩:=CB h3
    have g:=ih.eit (d+1) (i+1) y m (by omega) h4 h5
    have h7:=g.lt
    obtain⟨z,n,h8,h9⟩:=CB h6
    obtain⟨v,o,h10,h11⟩:=CB h9
    cases h11
    have hz:ED l (i+1) x n:=by
     split at h8
     ·rename_i hm
      have h12:=GO hl (by omega) g.le hm
      split at h8
      ·rename_i hw
       have h13:m+1+1<len l:=hl.last _ (by omega) h12 λ e=>by unfold DF at hw;rw[e]at hw;simp at hw
       cases h8
       exact⟨by omega,by omega,.no (by show(19:Int)≠4;decide),rfl,by rw[Tf.M5,O6];have:=g.size;omega⟩
      ·exact(DK h8).elim
     ·cases h8;exact g
    have h14:=hz.lt
    obtain⟨rfl,h15,_⟩:=GB hl (by omega) hz.le h10
    exact⟨by omega,h15,hz.pipe,hz.name,by have:=hz.size;omega⟩
end
theorem yP(s:A1):NT s=BE s:=by
 unfold NT BE
 congr 1
 funext n b
 omega
theorem yQ{l:A1}(h: ∀b∈l,C7 b=true)(hl:len l<=7):Lib.atoiAll ([48]++l)= .ok (BE l)/\0<=BE l/\BE l<10000000:=by
 have h1:=UJ l 0 h (by omega)
 have h2:(10:Int)^l.length<=10^7:=by
  have:(10:Nat)^l.length<=10^7:=Nat.pow_le_pow_right (by omega) (by unfold len at hl;omega)
  exact_mod_cast this
 have h3:=Y6 l 0 h (by
  have:(10:Nat)^l.length<=10^7:=Nat.pow_le_pow_right (by omega) (by unfold len at hl;omega)
  omega)
 have h4:0<=BE l/\BE l<10000000:=by unfold BE;omega
 refine⟨?_,h4⟩
 show Lib.atoiAll (48::l)=_
 have hm:Lib.parseMag (48::l)= .ok (BE l).toNat:=by
  unfold Lib.parseMag
  rw[if_neg (by simp),Lib.parseUint10,if_pos (by decide),if_neg (by decide),if_neg (by decide)]
  exact h3
 unfold Lib.atoiAll
 dsimp only
 rw[if_neg (by decide: ¬((48:UInt8).toNat=43\/(48:UInt8).toNat=45)),hm]
 dsimp only
 rw[if_neg (by omega),if_neg (by intro hh;exact absurd hh.1 (by decide)),if_neg (by decide)]
 congr 1;omega
theorem yR{l:List Tk}(hl:IE l){i:Int}(h0:0<=i)(h1:i<len l)(h5:(A2 l i).kind=5)(he:0<=(A2 l i).c.e)(hs:len (A2 l i).c.s+(A2 l i).c.e<=7):
  Lib.atoiAll (([48]++(A2 l i).c.s)++List.replicate (A2 l i).c.e.toNat 48)= .ok (KJ (A2 l i))/\0<=KJ (A2 l i)/\KJ (A2 l i)<10000000:=by
 unfold KJ
 rw[yP,List.append_assoc]
 refine yQ (λ b hb=>?_) (by rw[A5];unfold len at*;rw[List.length_replicate];omega)
 rcases List.mem_append.1 hb with hb|hb
 ·exact hl.I3 _ (at_mem h0 h1) h5 b hb
 ·rw[(List.mem_replicate.1 hb).2];decide
end Go.Eng
