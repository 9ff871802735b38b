/-
  Parts R4 R5, put together and made short by wip/py/merge.py (mini.py).
-/
import Derived.Test.YtmjpjbmeamnfpaaGreatDoorZc4
import Derived.Laws.BitsLemmas
import Derived.Test.YtmjpjbmeamnfpaaGreatDoorZc3
import Derived.Test.YtmjpjbmeamnfpaaGreatDoorProg
import Derived.Test.YtmjpjbmeamnfpaaGreatDoorZc24
import Derived.Test.YtmjpjbmeamnfpaaGreatDoorZc14
import Derived.Test.YtmjpjbmeamnfpaaGreatDoorZc0
set_option linter.unusedVariables false
set_option linter.unusedSimpArgs false
set_option maxRecDepth 100000
namespace Go.Proofs.YtmjpjbmeamnfpaaGreatDoor
open Go.Eng
theorem lN(n:Int)(w:World)(ih: ∀(k:Int) (w:World),n<k->k<0->Calls Tryz.prog 86 [i64 k].toArray w λ e w'=>e= .returned (str (Lib.itoa k))/\Ext w w')(h: -1000000<=n/\n<=1000000):
  Calls Tryz.prog 86 [(i64 n)].toArray w λ e w'=>e= .returned (str (Lib.itoa n))/\Ext w w':=by
 refine CW.BN Tryz.func86 U Tryz.ntmps86 (Nat.le_of_ble_eq_true U) λ Q hE=>?_
 have hS:St w nM w nM []:=St.start ⟨λ _ _ _ h=>by cases h⟩
 refine CW.weaken [0] (L':=[Y 0 (i64 n)]) ?_ U
 refine CW.sr (RL.u (.assign .c) U (RL.nil (CW.id (CW.seq ?_))))
 refine CW.sr (RL.m U U (RL.u (.gtr (.t U) .c) U (RL.m U U (RL.v (.pos U U) (.move (.t U)) U (RL.v (.pos U U) (.lss (.g U (λ h=>h)) .c) U (RL.u (.and (.t U) (.g U (λ h=>h))) U (RL.nil (CW.id ?_))))))))
 refine CW.cond rfl ?_ ?_<;>intro hb1<;>try simp only[zb]at hb1
 ·refine CW.sr (RL.m U U (RL.u (.sub .c (.t U) (λ _=>by omega)) U (RL.u (.BH (r:=48-n) (.t U) Tryz.underlying3 Tryz.underlying5 (λ _=>by exact Eng.wrap_u8 (by omega))) U ?_)))
  refine RL.buildSlice (n:=1) (sz:=1) (e:=5) (vs:=[(0,(.int .u8 (48-n)))]) (cs:=[(.int .u8 (48-n))]) hS (.cons (.t U) .nil) U U (λ w=>by kernel_rfl) U (λ v1 w2 M3 hS4 hle5=>?_)
  replace hS4:St w nM w2 M3 [.own 5 1 v1 (([48-n]:List Int)).length ((([48-n]:List Int)).flatMap AV)]:=hS4
  refine RL.u (.KB hS4 AX (hS4.sl (i:=0) U) (.t U) Tryz.underlying110 Tryz.underlying5 Tryz.underlying9) U (RL.u (.EA .c (.t U) (λ _=>by first|omega|(have hz6:=LA (-(-n/10));simp only[toStr,List.map_cons,List.map_nil,A7,len_nil];omega))) U (RL.a U U (RL.nil (CW.id ?_))))
  refine CW.ret (hE.r1 U U ?_)
  exact⟨by rw[sM (by omega) (by omega)],hS4.low⟩
 ·refine CW.skip (CW.id (CW.seq (CW.sr (RL.m U U (RL.u (.lss (.t U) .c) U (RL.nil (CW.id ?_)))))))
  refine CW.cond rfl ?_ ?_<;>intro hb2<;>try simp only[zb]at hb2
  ·refine CW.seq (CW.weaken [0] (L':=[Y 0 (i64 n)]) ?_ U)
   refine CW.qU [.is true (i64 n),.is true (i64 (-((-(n))/10))),.is true (str (Lib.itoa (-((-(n))/10)))),.is true (i64 n),.is true (i64 (-((-(n))%10))),.is true (i64 (48-(-((-(n))%10)))),.is true (.int .u8 (48-(-((-(n))%10)))),.sl 1 (([48-(-((-(n))%10))]:List Int)).length ((([48-(-((-(n))%10))]:List Int)).flatMap AV),.is true (str (toStr (([48-(-((-(n))%10))]:List Int)))),.is true (str ((Lib.itoa (-((-(n))/10)))++(toStr (([48-(-((-(n))%10))]:List Int))))),.is true (str ((Lib.itoa (-((-(n))/10)))++(toStr (([48-(-((-(n))%10))]:List Int)))))] hS MK [0] U (by decide+kernel) (.cons ?_ (.cons ?_ (.cons ?_ (.cons ?_ (.cons ?_ (.cons ?_ (.cons ?_ (.cons ?_ (.cons ?_ (.cons ?_ (.cons ?_ (.nil)))))))))))) ?_
   ·intro LL w6 M7 hle9 hS8 hK hD
    refine RL.u (.move (.t (hK _ _ U))) U ?_
    exact RL.nil (RA.next λ a hs=>⟨_,_,Mem.le.refl _,hS8,hs,_,_,rfl,rfl,rfl⟩)
   ·intro LL w10 M11 hle13 hS12 hK hD
    obtain⟨g18,v18,hl18,rfl,rfl⟩:=hD 0 (by decide+kernel)
    refine RL.u (.dF (r:= -((-(n))/10)) (.t hl18) .c (λ _=>by omega) (λ _=>by rw[sN (by omega)];exact Eng.wrap_i64 (by omega))) U ?_
    exact RL.nil (RA.next λ a hs=>⟨_,_,Mem.le.refl _,hS12,hs,_,_,rfl,rfl,rfl⟩)
   ·intro LL w14 M15 hle17 hS16 hK hD
    obtain⟨g19,v19,hl19,rfl,rfl⟩:=hD 1 (by decide+kernel)
    refine RL.D5 hS16 .none Tryz.call86 (.cons (.t hl19) .nil) (λ _=>(ih (-((-(n))/10)) _ (by omega) (by omega))) U (λ w18 hS19=>?_)
    exact RL.nil (RA.next λ a hs=>⟨_,_,Mem.le.refl _,hS19,hs,_,_,rfl,rfl,rfl⟩)
   ·intro LL w20 M21 hle23 hS22 hK hD
    refine RL.u (.move (.t (hK _ _ U))) U ?_
    exact RL.nil (RA.next λ a hs=>⟨_,_,Mem.le.refl _,hS22,hs,_,_,rfl,rfl,rfl⟩)
   ·intro LL w24 M25 hle27 hS26 hK hD
    obtain⟨g21,v21,hl21,rfl,rfl⟩:=hD 3 (by decide+kernel)
    refine RL.u (.dG (r:= -((-(n))%10)) (.t hl21) .c (λ _=>by omega) (λ _=>by exact sO (by omega))) U ?_
    exact RL.nil (RA.next λ a hs=>⟨_,_,Mem.le.refl _,hS26,hs,_,_,rfl,rfl,rfl⟩)
   ·intro LL w28 M29 hle31 hS30 hK hD
    obtain⟨g22,v22,hl22,rfl,rfl⟩:=hD 4 (by decide+kernel)
    refine RL.u (.sub .c (.t hl22) (λ _=>by omega)) U ?_
    exact RL.nil (RA.next λ a hs=>⟨_,_,Mem.le.refl _,hS30,hs,_,_,rfl,rfl,rfl⟩)
   ·intro LL w32 M33 hle35 hS34 hK hD
    obtain⟨g23,v23,hl23,rfl,rfl⟩:=hD 5 (by decide+kernel)
    refine RL.u (.BH (r:=48-(-((-(n))%10))) (.t hl23) Tryz.underlying3 Tryz.underlying5 (λ _=>by exact Eng.wrap_u8 (by omega))) U ?_
    exact RL.nil (RA.next λ a hs=>⟨_,_,Mem.le.refl _,hS34,hs,_,_,rfl,rfl,rfl⟩)
   ·intro LL w36 M37 hle39 hS38 hK hD
    obtain⟨g24,v24,hl24,rfl,rfl⟩:=hD 6 (by decide+kernel)
    refine RL.buildSlice (n:=1) (sz:=1) (e:=5) (vs:=[(0,(.int .u8 (48-(-((-(n))%10)))))]) (cs:=[(.int .u8 (48-(-((-(n))%10))))]) hS38 (.cons (.t hl24) .nil) U U (λ w=>by kernel_rfl) U (λ v40 w41 M42 hS43 hle44=>?_)
    have hfact:=(hS43.sl (i:=0) U)
    replace hS43:=hS43.erase 0 U
    exact RL.nil (RA.next λ a hs=>⟨_,_,hle44,hS43,hs,_,_,rfl,rfl,hfact⟩)
   ·intro LL w45 M46 hle48 hS47 hK hD
    obtain⟨g25,v25,hl25,rfl,hsl25⟩:=hD 7 (by decide+kernel)
    refine RL.u (.KB hS47 AX hsl25 (.t hl25) Tryz.underlying110 Tryz.underlying5 Tryz.underlying9) U ?_
    exact RL.nil (RA.next λ a hs=>⟨_,_,Mem.le.refl _,hS47,hs,_,_,rfl,rfl,rfl⟩)
   ·intro LL w49 M50 hle52 hS51 hK hD
    obtain⟨g20,v20,hl20,rfl,rfl⟩:=hD 2 (by decide+kernel)
    obtain⟨g26,v26,hl26,rfl,rfl⟩:=hD 8 (by decide+kernel)
    refine RL.u (.EA (.t hl20) (.t hl26) (λ _=>by first|omega|(have hz6:=LA (-(-n/10));simp only[toStr,List.map_cons,List.map_nil,A7,len_nil];omega))) U ?_
    exact RL.nil (RA.next λ a hs=>⟨_,_,Mem.le.refl _,hS51,hs,_,_,rfl,rfl,rfl⟩)
   ·intro LL w53 M54 hle56 hS55 hK hD
    obtain⟨g27,v27,hl27,rfl,rfl⟩:=hD 9 (by decide+kernel)
    obtain⟨g27,v27,hl27,rfl,rfl⟩:=hD 9 (by decide+kernel)
    refine RL.u (.assign (.t hl27)) U ?_
    exact RL.nil (RA.next λ a hs=>⟨_,_,Mem.le.refl _,hS55,hs,_,_,rfl,rfl,rfl⟩)
   intro w57 M58 LL hle60 hS59 hK hD
   obtain⟨g2,v2,hl2,rfl,rfl⟩:=hD 10 (by decide)
   refine eJ (E:=[Y 0 (i64 n),Y 2 (str ((Lib.itoa (-((-(n))/10)))++(toStr (([48-(-((-(n))%10))]:List Int)))))]) (.cons (hK _ _ U) (.cons hl2 .nil)) ?_
   refine(CW.at [Y 2 (str ((Lib.itoa (-((-(n))/10)))++(toStr (([48-(-((-(n))%10))]:List Int)))))] U ?_)
   refine CW.ret (hE.r1 U U ?_)
   exact⟨by rw[sL (k:=n) (by omega),show(48- -(-n%10):Int)=48+ -n%10 from by omega],hS59.low⟩
  ·refine CW.skip (CW.id (CW.sr (RL.m U U (RL.u (.rem (.t U) .c (λ _=>by omega)) U (RL.u (.add .c (.t U) (λ _=>by omega)) U (RL.u (.BH (r:=48+(n%10)) (.t U) Tryz.underlying3 Tryz.underlying5 (λ _=>by exact Eng.wrap_u8 (by omega))) U ?_))))))
   refine RL.buildSlice (n:=1) (sz:=1) (e:=5) (vs:=[(0,(.int .u8 (48+(n%10))))]) (cs:=[(.int .u8 (48+(n%10)))]) hS (.cons (.t U) .nil) U U (λ w=>by kernel_rfl) U (λ v61 w62 M63 hS64 hle65=>?_)
   replace hS64:St w nM w62 M63 [.own 5 1 v61 (([48+(n%10)]:List Int)).length ((([48+(n%10)]:List Int)).flatMap AV)]:=hS64
   refine RL.u (.KB hS64 AX (hS64.sl (i:=0) U) (.t U) Tryz.underlying110 Tryz.underlying5 Tryz.underlying9) U (RL.a U U (RL.nil (CW.id ?_)))
   refine CW.seq (CW.block ?_)
   refine CW.loop (σ:=Int×A1×Mem) (λ(k,o,Ml)=>[Y 0 (i64 k),Y 3 (str o)]) (λ(k,o,Ml) wl=>St w nM wl Ml [.own 5 1 v61 (([48+(n%10)]:List Int)).length ((([48+(n%10)]:List Int)).flatMap AV)]/\0<=k/\k<=1000000/\len o+k<=1000001/\Lib.itoa n=(if 10<=k then Lib.itoa (k/10)else [])++o) (λ(k,o,Ml)=>k.toNat) ((n,toStr [48+n%10],M63)) [0,3] U ?_ ?_
   ·refine⟨hS64,?_⟩;exact⟨by omega,by omega,by unfold toStr;simp only[List.map_cons,List.map_nil,A7,len_nil];omega,OL (by omega)⟩
   ·rintro⟨k,o,Ml⟩ wl ⟨hS66,hk,hk2,hlo,hF⟩
    refine CW.seq (CW.sr (RL.m U U (RL.u (.geq (.t U) .c) U (RL.nil (CW.id ?_)))))
    refine CW.cond rfl ?_ ?_<;>intro hb3<;>try simp only[zb]at hb3
    ·refine CW.skip (CW.id (CW.block (CW.sr (RL.m U U (RL.u (.quo (.t U) .c (λ _=>by omega)) U (RL.a U U (RL.nil (CW.id ?_))))))))
     refine CW.region (RL.m U U (RL.u (.rem (.t U) .c (λ _=>by omega)) U (RL.u (.add .c (.t U) (λ _=>by omega)) U (RL.u (.BH (r:=48+((k/10)%10)) (.t U) Tryz.underlying3 Tryz.underlying5 (λ _=>by exact Eng.wrap_u8 (by omega))) U ?_))))
     refine RL.buildSlice (n:=1) (sz:=1) (e:=5) (vs:=[(0,(.int .u8 (48+((k/10)%10))))]) (cs:=[(.int .u8 (48+((k/10)%10)))]) hS66 (.cons (.t U) .nil) U U (λ w=>by kernel_rfl) U (λ v67 w68 M69 hS70 hle71=>?_)
     replace hS70:St w nM w68 M69 [.own 5 1 v67 (([48+((k/10)%10)]:List Int)).length ((([48+((k/10)%10)]:List Int)).flatMap AV),.own 5 1 v61 (([48+(n%10)]:List Int)).length ((([48+(n%10)]:List Int)).flatMap AV)]:=hS70
     refine RL.u (.KB hS70 AX (hS70.sl (i:=0) U) (.t U) Tryz.underlying110 Tryz.underlying5 Tryz.underlying9) U (RL.m U U (RL.u (.EA (.t U) (.t U) (λ _=>by first|omega|(have hz6:=LA (-(-n/10));simp only[toStr,List.map_cons,List.map_nil,A7,len_nil];omega))) U (RL.a U U ?_)))
     replace hS70:=hS70.erase 0 U
     refine RL.nil λ a hs=>Exists.intro ((k/10,toStr [48+k/10%10]++o,M69)) ⟨hs.BG [0,3],?_,?_⟩
     ·refine⟨hS70,?_⟩
      refine⟨by omega,by omega,by unfold toStr;simp only[List.map_cons,List.map_nil,A5,A7,len_nil];omega,?_⟩
      rw[hF,if_pos (by omega),OL (k:=k/10) (by omega),List.append_assoc]
     ·show Int.toNat _<Int.toNat _;omega
    ·refine CW.exit (CW.at [Y 3 (str o)] U ?_)
     refine CW.sr (RL.m U U (RL.a U U (RL.nil (CW.id (CW.ret (hE.r1 U U ?_))))))
     exact⟨by rw[hF,if_neg (by omega)];rfl,hS66.low⟩
theorem lO(n:Int)(w:World)(h: -1000000<=n/\n<=1000000):Calls Tryz.prog 86 [i64 n].toArray w λ e w'=>e= .returned (str (Lib.itoa n))/\Ext w w':=by
 have key: ∀(k:Nat) (n:Int) (w:World),(-n).toNat<=k-> -1000000<=n/\n<=1000000->Calls Tryz.prog 86 [i64 n].toArray w λ e w'=>e= .returned (str (Lib.itoa n))/\Ext w w':=by
  intro k
  induction k with
  |zero=>intro n w hk h;exact lN n w (λ k w h1 h2=>by omega) h
  |succ k ih=>intro n w hk h;exact lN n w (λ j w h1 h2=>ih j w (by omega) (by omega)) h
 exact key _ n w (Nat.le_refl _) h
theorem AA5(n:Nd)(w:World)(hb:len n.s<=1099511627776)(he: -1000000<=n.e/\n.e<=1000000):
  Calls Tryz.prog 57 [(JF n)].toArray w λ e w'=>e= .returned (str (CP n))/\Ext w w':=by
 refine CW.BN Tryz.func57 U Tryz.ntmps57 (Nat.le_of_ble_eq_true U) λ Q hE=>?_
 have:=AA n.s
 have hz:=RJ (1-n.e-len n.s)
 have hz2:=RJ n.e
 have hz5:=LA n.e
 have hS:St w nM w nM []:=St.start ⟨λ _ _ _ h=>by cases h⟩
 refine CW.weaken [0] (L':=[Y 0 (JF n)]) ?_ U
 refine CW.sr ?_
 refine RL.box (v:=(JF n)) hS (.t U) U (λ w1 b2 hS3=>?_)
 refine RL.u (.assign .c) U (RL.nil (CW.id ?_))
 refine CW.sr (RL.u (.assign .c) U (RL.nil (CW.id (CW.seq ?_))))
 refine CW.sr (RL.u (.BR (q:=⟨b2,4,none⟩) (.t U) (λ w=>by kernel_rfl)) U (RL.u (.BA (v:=(.bool n.neg)) hS3 AX (i:=0) U (.t U) Tryz.isAgg4 U) U (RL.nil (CW.id ?_))))
 refine CW.cond rfl ?_ ?_<;>intro hb1<;>try simp only[zb]at hb1
 ·refine CW.region (RL.u (.assign .c) U (RL.nil (CW.id (CW.sr ?_))))
  refine RL.u (.BR (q:=⟨b2,3,none⟩) (.t U) (λ w=>by kernel_rfl)) U (RL.u (.BA (v:=(str n.s)) hS3 AX (i:=0) U (.t U) Tryz.isAgg9 U) U (RL.a U U (RL.nil (CW.id ?_))))
  refine CW.seq (CW.sr (RL.m U U (RL.u (.NI (.t U) .c) U (RL.nil (CW.id ?_)))))
  refine CW.cond rfl ?_ ?_<;>intro hb2<;>try simp only[zb]at hb2
  ·refine CW.sr (RL.u (.assign .c) U (RL.nil (CW.id (CW.ret (hE.r1 U U ?_)))))
   clear hE
   have hq:CP n=[48]:=by
    unfold CP
    (try dsimp only)
    (repeat' split)
    all_goals first|rfl|(exfalso;omega)|(exfalso;simp_all;done)|(simp_all;done)|(exfalso;simp_all;omega)
   rw[hq];exact⟨rfl,hS3.low⟩
  ·refine CW.skip (CW.id (CW.seq (CW.sr (RL.u (.BR (q:=⟨b2,5,none⟩) (.t U) (λ w=>by kernel_rfl)) U (RL.u (.BA (v:=(i64 n.e)) hS3 AX (i:=0) U (.t U) Tryz.isAgg3 U) U (RL.u (.geq (.t U) .c) U (RL.m U U (RL.v (.pos U U) (.move (.t U)) U (RL.v (.pos U U) (.BZ (.g U (λ h=>h)) Tryz.underlying9) U ?_)))))))))
   refine RL.v (.pos U U) (.BR (q:=⟨b2,5,none⟩) (.t U) (λ w=>by kernel_rfl)) U (RL.v (.pos U U) (.BA (v:=(i64 n.e)) hS3 AX (i:=0) U (.g U (λ h=>h)) Tryz.isAgg3 U) U (RL.v (.pos U U) (.add (.g U (λ h=>h)) (.g U (λ h=>h)) (λ hW=>by simp only[zb]at hW;first|omega|(simp only[A5,A7,len_nil]at*;omega))) U (RL.v (.pos U U) (.leq (.g U (λ h=>h)) .c) U (RL.u (.and (.t U) (.g U (λ h=>h))) U (RL.nil (CW.id ?_))))))
   refine CW.cond rfl ?_ ?_<;>intro hb3<;>try simp only[zb]at hb3
   ·refine CW.seq (CW.sr (RL.u (.assign .c) U (RL.nil (CW.id ?_))))
    refine CW.block ?_
    refine CW.loop (σ:=Int×A1) (λ(k,o)=>[Y 1 (.pointer (some ⟨b2,0,none⟩)),Y 3 (str [45]),Y 4 (str o),Y 5 (i64 k)]) (λ(k,o) wl=>St w nM wl nM [.box b2 (JG n []) 46]/\0<=k/\k<=n.e/\o=n.s++BF k/\len o=len n.s+k) (λ(k,o)=>(n.e-k).toNat) ((0,n.s)) [1,3,4,5] U ?_ ?_
    ·refine⟨hS3,?_⟩;exact⟨by omega,by omega,by rw[KD (by omega)];simp,by omega⟩
    ·rintro⟨k,o⟩ wl ⟨hS4,h0,h1,hF,hl⟩
     refine CW.seq (CW.sr (RL.m U U (RL.u (.BR (q:=⟨b2,5,none⟩) (.t U) (λ w=>by kernel_rfl)) U (RL.u (.BA (v:=(i64 n.e)) hS4 AX (i:=0) U (.t U) Tryz.isAgg3 U) U (RL.u (.lss (.t U) (.t U)) U (RL.nil (CW.id ?_)))))))
     refine CW.cond rfl ?_ ?_<;>intro hb4<;>try simp only[zb]at hb4
     ·refine CW.skip (CW.id (CW.seq (CW.block ?_)))
      refine CW.region (RL.m U U (RL.u (.EA (.t U) .c (λ _=>by first|omega|(simp only[A5,A7,len_nil]at*;omega))) U (RL.a U U (RL.nil (CW.id ?_)))))
      refine CW.region (RL.m U U (RL.u (.add (.t U) .c (λ _=>by omega)) U (RL.a U U ?_)))
      refine RL.nil λ a hs=>Exists.intro ((k+1,o++[48])) ⟨hs.BG [1,3,4,5],?_,?_⟩
      ·refine⟨hS4,?_⟩
       exact⟨by omega,by omega,by rw[hF,ZT h0];simp,by rw[A5,A7,len_nil];omega⟩
      ·show Int.toNat _<Int.toNat _;omega
     ·refine CW.exit (CW.at [Y 3 (str [45]),Y 4 (str o)] U ?_)
      refine CW.sr (RL.m U U (RL.m U U (RL.u (.EA (.t U) (.t U) (λ _=>by first|omega|(simp only[A5,A7,len_nil]at*;omega))) U (RL.a U U (RL.nil (CW.id (CW.ret (hE.r1 U U ?_))))))))
      clear hE
      have hq:CP n=[45]++o:=by
       have ho:o=n.s++BF n.e:=by rw[hF,show k=n.e from by omega]
       rw[ho]
       unfold CP
       (try dsimp only)
       (repeat' split)
       all_goals first|rfl|(exfalso;simp_all;done)|(simp_all;done)|(exfalso;simp_all;omega)
      rw[hq];exact⟨rfl,hS4.low⟩
   ·refine CW.skip (CW.id (CW.seq (CW.sr (RL.u (.BR (q:=⟨b2,5,none⟩) (.t U) (λ w=>by kernel_rfl)) U (RL.u (.BA (v:=(i64 n.e)) hS3 AX (i:=0) U (.t U) Tryz.isAgg3 U) U (RL.u (.lss (.t U) .c) U (RL.m U U (RL.v (.pos U U) (.BR (q:=⟨b2,5,none⟩) (.t U) (λ w=>by kernel_rfl)) U (RL.v (.pos U U) (.BA (v:=(i64 n.e)) hS3 AX (i:=0) U (.g U (λ h=>h)) Tryz.isAgg3 U) U ?_)))))))))
    refine RL.v (.pos U U) (.geq (.g U (λ h=>h)) .c) U (RL.u (.and (.t U) (.g U (λ h=>h))) U (RL.nil (CW.id ?_)))
    refine CW.cond rfl ?_ ?_<;>intro hb5<;>try simp only[zb]at hb5
    ·refine CW.seq (CW.block ?_)
     refine CW.loop (σ:=A1) (λ o=>[Y 1 (.pointer (some ⟨b2,0,none⟩)),Y 3 (str [45]),Y 4 (str o)]) (λ o wl=>St w nM wl nM [.box b2 (JG n []) 46]/\o=BF (len o-len n.s)++n.s/\len n.s<=len o/\(len o<=len n.s\/len o<=1-n.e)) (λ o=>(1-n.e-len o).toNat) n.s [1,3,4] U ?_ ?_
     ·refine⟨hS3,?_⟩;exact⟨by rw[KD (by omega)];simp,by omega,by omega⟩
     ·rintro o wl ⟨hS5,hF,hl,hl2⟩
      have hz3:=GV o 0 (len o+n.e)
      have hz4:=L9 o (len o+n.e)
      refine CW.seq (CW.sr (RL.m U U (RL.u (.BZ (.t U) Tryz.underlying9) U (RL.u (.BR (q:=⟨b2,5,none⟩) (.t U) (λ w=>by kernel_rfl)) U (RL.u (.BA (v:=(i64 n.e)) hS5 AX (i:=0) U (.t U) Tryz.isAgg3 U) U (RL.u (.sub .c (.t U) (λ _=>by omega)) U (RL.u (.lss (.t U) (.t U)) U (RL.nil (CW.id ?_)))))))))
      refine CW.cond rfl ?_ ?_<;>intro hb6<;>try simp only[zb]at hb6
      ·refine CW.skip (CW.id (CW.block ?_))
       refine CW.region (RL.m U U (RL.u (.EA .c (.t U) (λ _=>by first|omega|(simp only[A5,A7,len_nil]at*;omega))) U (RL.a U U ?_)))
       refine RL.nil λ a hs=>Exists.intro ([48]++o) ⟨hs.BG [1,3,4],?_,?_⟩
       ·refine⟨hS5,?_⟩
        exact⟨by rw[A5,A7,len_nil,show 0+1+len o-len n.s=len o-len n.s+1 from by omega,iT (by omega)];exact congrArg (48:: ·) hF,by rw[A5,A7,len_nil];omega,by rw[A5,A7,len_nil];omega⟩
       ·show Int.toNat _<Int.toNat _;rw[A5,A7,len_nil];omega
      ·refine CW.exit (CW.at [Y 1 (.pointer (some ⟨b2,0,none⟩)),Y 3 (str [45]),Y 4 (str o)] U ?_)
       refine CW.seq ?_
       refine CW.OH hS5 MK (by decide+kernel) ?_
       refine RQ.v .none (.move (.t U)) U ?_
       refine RQ.v .none (.move (.t U)) U ?_
       refine RQ.v .none (.move (.t U)) U ?_
       refine RQ.v .none (.BZ (.t U) Tryz.underlying9) U ?_
       refine RQ.v .none (.BR (q:=⟨b2,5,none⟩) (.t U) (λ w=>by kernel_rfl)) U ?_
       refine RQ.v .none (.BA (v:=(i64 n.e)) hS5 (λ _ h=>h) (i:=0) U (.t U) Tryz.isAgg3 U) U ?_
       refine RQ.v .none (.add (.t U) (.t U) (λ _=>by omega)) U ?_
       refine RQ.v .none (.PD (.t U) (.t U) Tryz.underlying9 (λ _=>by omega)) U ?_
       refine RQ.v .none (.EA (.t U) (.t U) (λ _=>by first|omega|(simp only[A5,A7,len_nil]at*;omega))) U ?_
       refine RQ.v .none (.EA (.t U) .c (λ _=>by first|omega|(simp only[A5,A7,len_nil]at*;omega))) U ?_
       refine RQ.v .none (.move (.t U)) U ?_
       refine RQ.v .none (.move (.t U)) U ?_
       refine RQ.v .none (.BZ (.t U) Tryz.underlying9) U ?_
       refine RQ.v .none (.BR (q:=⟨b2,5,none⟩) (.t U) (λ w=>by kernel_rfl)) U ?_
       refine RQ.v .none (.BA (v:=(i64 n.e)) hS5 (λ _ h=>h) (i:=0) U (.t U) Tryz.isAgg3 U) U ?_
       refine RQ.v .none (.add (.t U) (.t U) (λ _=>by omega)) U ?_
       refine RQ.v .none (.JC (.t U) (.t U) Tryz.underlying9 (λ _=>by omega)) U ?_
       refine RQ.v .none (.EA (.t U) (.t U) (λ _=>by first|omega|(simp only[A5,A7,len_nil]at*;omega))) U ?_
       refine RQ.v .none (.assign (.t U)) U ?_
       refine RQ.nil (λ a hs w6 hS7=>CW.at [Y 2 (str ((([45]++(Eng.sub o 0 ((len o)+n.e)))++[46])++(Eng.A4 o ((len o)+n.e))))] U ?_ a hs)
       refine CW.ret (hE.r1 U U ?_)
       have hq:CP n=(([45]++(Eng.sub o 0 ((len o)+n.e)))++[46])++(Eng.A4 o ((len o)+n.e)):=by
        have ho:o=BF (1-n.e-len n.s)++n.s:=by
         rcases hl2 with h|h
         ·rw[KD (by omega)]at hF;rw[KD (by omega)];exact hF
         ·rw[show len o-len n.s=1-n.e-len n.s from by omega]at hF;exact hF
        rw[ho]
        have c1:(n.s==[])=false:=by simpa using hb2
        have c2:(decide (0<=n.e)&&decide (len n.s+n.e<=20))=false:=by rw[Bool.and_eq_false_iff,decide_eq_false_iff_not];left;omega
        have c3:(decide (n.e<0)&&decide (-20<=n.e))=true:=by rw[Bool.and_eq_true,decide_eq_true_eq,decide_eq_true_eq];omega
        simp only[CP,c1,c2,c3,hb1,if_true,if_false,Bool.false_eq_true]
       rw[hq];exact⟨rfl,hS7.low⟩
    ·refine CW.skip (CW.id (CW.sr (RL.m U U (RL.m U U (RL.u (.EA (.t U) (.t U) (λ _=>by first|omega|(simp only[A5,A7,len_nil]at*;omega))) U (RL.u (.EA (.t U) .c (λ _=>by first|omega|(simp only[A5,A7,len_nil]at*;omega))) U (RL.u (.BR (q:=⟨b2,5,none⟩) (.t U) (λ w=>by kernel_rfl)) U (RL.u (.BA (v:=(i64 n.e)) hS3 AX (i:=0) U (.t U) Tryz.isAgg3 U) U ?_))))))))
     refine RL.D5 hS3 .none Tryz.call86 (.cons (.t U) .nil) (λ _=>(lO n.e _ (by omega))) U (λ w8 hS9=>?_)
     refine RL.u (.EA (.t U) (.t U) (λ _=>by first|omega|(simp only[A5,A7,len_nil]at*;omega))) U (RL.a U U ?_)
     refine RL.nil (CW.at [Y 2 (str ((([45]++n.s)++[101])++(Lib.itoa n.e)))] U (CW.ret (hE.r1 U U ?_)))
     clear hE
     have hq:CP n=(([45]++n.s)++[101])++(Lib.itoa n.e):=by
      unfold CP
      (try dsimp only)
      (repeat' split)
      all_goals first|rfl|(exfalso;omega)|(exfalso;simp_all;done)|(simp_all;done)|(exfalso;simp_all;omega)
     rw[hq];exact⟨rfl,hS9.low⟩
 ·refine CW.skip (CW.id (CW.sr (RL.u (.BR (q:=⟨b2,3,none⟩) (.t U) (λ w=>by kernel_rfl)) U (RL.u (.BA (v:=(str n.s)) hS3 AX (i:=0) U (.t U) Tryz.isAgg9 U) U (RL.a U U (RL.nil (CW.id ?_)))))))
  refine CW.seq (CW.sr (RL.m U U (RL.u (.NI (.t U) .c) U (RL.nil (CW.id ?_)))))
  refine CW.cond rfl ?_ ?_<;>intro hb7<;>try simp only[zb]at hb7
  ·refine CW.sr (RL.u (.assign .c) U (RL.nil (CW.id (CW.ret (hE.r1 U U ?_)))))
   clear hE
   have hq:CP n=[48]:=by
    unfold CP
    (try dsimp only)
    (repeat' split)
    all_goals first|rfl|(exfalso;omega)|(exfalso;simp_all;done)|(simp_all;done)|(exfalso;simp_all;omega)
   rw[hq];exact⟨rfl,hS3.low⟩
  ·refine CW.skip (CW.id (CW.seq (CW.sr (RL.u (.BR (q:=⟨b2,5,none⟩) (.t U) (λ w=>by kernel_rfl)) U (RL.u (.BA (v:=(i64 n.e)) hS3 AX (i:=0) U (.t U) Tryz.isAgg3 U) U (RL.u (.geq (.t U) .c) U (RL.m U U (RL.v (.pos U U) (.move (.t U)) U (RL.v (.pos U U) (.BZ (.g U (λ h=>h)) Tryz.underlying9) U ?_)))))))))
   refine RL.v (.pos U U) (.BR (q:=⟨b2,5,none⟩) (.t U) (λ w=>by kernel_rfl)) U (RL.v (.pos U U) (.BA (v:=(i64 n.e)) hS3 AX (i:=0) U (.g U (λ h=>h)) Tryz.isAgg3 U) U (RL.v (.pos U U) (.add (.g U (λ h=>h)) (.g U (λ h=>h)) (λ hW=>by simp only[zb]at hW;first|omega|(simp only[A5,A7,len_nil]at*;omega))) U (RL.v (.pos U U) (.leq (.g U (λ h=>h)) .c) U (RL.u (.and (.t U) (.g U (λ h=>h))) U (RL.nil (CW.id ?_))))))
   refine CW.cond rfl ?_ ?_<;>intro hb8<;>try simp only[zb]at hb8
   ·refine CW.seq (CW.sr (RL.u (.assign .c) U (RL.nil (CW.id ?_))))
    refine CW.block ?_
    refine CW.loop (σ:=Int×A1) (λ(k,o)=>[Y 1 (.pointer (some ⟨b2,0,none⟩)),Y 3 (str []),Y 4 (str o),Y 5 (i64 k)]) (λ(k,o) wl=>St w nM wl nM [.box b2 (JG n []) 46]/\0<=k/\k<=n.e/\o=n.s++BF k/\len o=len n.s+k) (λ(k,o)=>(n.e-k).toNat) ((0,n.s)) [1,3,4,5] U ?_ ?_
    ·refine⟨hS3,?_⟩;exact⟨by omega,by omega,by rw[KD (by omega)];simp,by omega⟩
    ·rintro⟨k,o⟩ wl ⟨hS10,h0,h1,hF,hl⟩
     refine CW.seq (CW.sr (RL.m U U (RL.u (.BR (q:=⟨b2,5,none⟩) (.t U) (λ w=>by kernel_rfl)) U (RL.u (.BA (v:=(i64 n.e)) hS10 AX (i:=0) U (.t U) Tryz.isAgg3 U) U (RL.u (.lss (.t U) (.t U)) U (RL.nil (CW.id ?_)))))))
     refine CW.cond rfl ?_ ?_<;>intro hb9<;>try simp only[zb]at hb9
     ·refine CW.skip (CW.id (CW.seq (CW.block ?_)))
      refine CW.region (RL.m U U (RL.u (.EA (.t U) .c (λ _=>by first|omega|(simp only[A5,A7,len_nil]at*;omega))) U (RL.a U U (RL.nil (CW.id ?_)))))
      refine CW.region (RL.m U U (RL.u (.add (.t U) .c (λ _=>by omega)) U (RL.a U U ?_)))
      refine RL.nil λ a hs=>Exists.intro ((k+1,o++[48])) ⟨hs.BG [1,3,4,5],?_,?_⟩
      ·refine⟨hS10,?_⟩
       exact⟨by omega,by omega,by rw[hF,ZT h0];simp,by rw[A5,A7,len_nil];omega⟩
      ·show Int.toNat _<Int.toNat _;omega
     ·refine CW.exit (CW.at [Y 3 (str []),Y 4 (str o)] U ?_)
      refine CW.sr (RL.m U U (RL.m U U (RL.u (.EA (.t U) (.t U) (λ _=>by first|omega|(simp only[A5,A7,len_nil]at*;omega))) U (RL.a U U (RL.nil (CW.id (CW.ret (hE.r1 U U ?_))))))))
      clear hE
      have hq:CP n=[]++o:=by
       have ho:o=n.s++BF n.e:=by rw[hF,show k=n.e from by omega]
       rw[ho]
       unfold CP
       (try dsimp only)
       (repeat' split)
       all_goals first|rfl|(exfalso;simp_all;done)|(simp_all;done)|(exfalso;simp_all;omega)
      rw[hq];exact⟨rfl,hS10.low⟩
   ·refine CW.skip (CW.id (CW.seq (CW.sr (RL.u (.BR (q:=⟨b2,5,none⟩) (.t U) (λ w=>by kernel_rfl)) U (RL.u (.BA (v:=(i64 n.e)) hS3 AX (i:=0) U (.t U) Tryz.isAgg3 U) U (RL.u (.lss (.t U) .c) U (RL.m U U (RL.v (.pos U U) (.BR (q:=⟨b2,5,none⟩) (.t U) (λ w=>by kernel_rfl)) U (RL.v (.pos U U) (.BA (v:=(i64 n.e)) hS3 AX (i:=0) U (.g U (λ h=>h)) Tryz.isAgg3 U) U ?_)))))))))
    refine RL.v (.pos U U) (.geq (.g U (λ h=>h)) .c) U (RL.u (.and (.t U) (.g U (λ h=>h))) U (RL.nil (CW.id ?_)))
    refine CW.cond rfl ?_ ?_<;>intro hb10<;>try simp only[zb]at hb10
    ·refine CW.seq (CW.block ?_)
     refine CW.loop (σ:=A1) (λ o=>[Y 1 (.pointer (some ⟨b2,0,none⟩)),Y 3 (str []),Y 4 (str o)]) (λ o wl=>St w nM wl nM [.box b2 (JG n []) 46]/\o=BF (len o-len n.s)++n.s/\len n.s<=len o/\(len o<=len n.s\/len o<=1-n.e)) (λ o=>(1-n.e-len o).toNat) n.s [1,3,4] U ?_ ?_
     ·refine⟨hS3,?_⟩;exact⟨by rw[KD (by omega)];simp,by omega,by omega⟩
     ·rintro o wl ⟨hS11,hF,hl,hl2⟩
      have hz3:=GV o 0 (len o+n.e)
      have hz4:=L9 o (len o+n.e)
      refine CW.seq (CW.sr (RL.m U U (RL.u (.BZ (.t U) Tryz.underlying9) U (RL.u (.BR (q:=⟨b2,5,none⟩) (.t U) (λ w=>by kernel_rfl)) U (RL.u (.BA (v:=(i64 n.e)) hS11 AX (i:=0) U (.t U) Tryz.isAgg3 U) U (RL.u (.sub .c (.t U) (λ _=>by omega)) U (RL.u (.lss (.t U) (.t U)) U (RL.nil (CW.id ?_)))))))))
      refine CW.cond rfl ?_ ?_<;>intro hb11<;>try simp only[zb]at hb11
      ·refine CW.skip (CW.id (CW.block ?_))
       refine CW.region (RL.m U U (RL.u (.EA .c (.t U) (λ _=>by first|omega|(simp only[A5,A7,len_nil]at*;omega))) U (RL.a U U ?_)))
       refine RL.nil λ a hs=>Exists.intro ([48]++o) ⟨hs.BG [1,3,4],?_,?_⟩
       ·refine⟨hS11,?_⟩
        exact⟨by rw[A5,A7,len_nil,show 0+1+len o-len n.s=len o-len n.s+1 from by omega,iT (by omega)];exact congrArg (48:: ·) hF,by rw[A5,A7,len_nil];omega,by rw[A5,A7,len_nil];omega⟩
       ·show Int.toNat _<Int.toNat _;rw[A5,A7,len_nil];omega
      ·refine CW.exit (CW.at [Y 1 (.pointer (some ⟨b2,0,none⟩)),Y 3 (str []),Y 4 (str o)] U ?_)
       refine CW.seq ?_
       refine CW.OH hS11 MK (by decide+kernel) ?_
       refine RQ.v .none (.move (.t U)) U ?_
       refine RQ.v .none (.move (.t U)) U ?_
       refine RQ.v .none (.move (.t U)) U ?_
       refine RQ.v .none (.BZ (.t U) Tryz.underlying9) U ?_
       refine RQ.v .none (.BR (q:=⟨b2,5,none⟩) (.t U) (λ w=>by kernel_rfl)) U ?_
       refine RQ.v .none (.BA (v:=(i64 n.e)) hS11 (λ _ h=>h) (i:=0) U (.t U) Tryz.isAgg3 U) U ?_
       refine RQ.v .none (.add (.t U) (.t U) (λ _=>by omega)) U ?_
       refine RQ.v .none (.PD (.t U) (.t U) Tryz.underlying9 (λ _=>by omega)) U ?_
       refine RQ.v .none (.EA (.t U) (.t U) (λ _=>by first|omega|(simp only[A5,A7,len_nil]at*;omega))) U ?_
       refine RQ.v .none (.EA (.t U) .c (λ _=>by first|omega|(simp only[A5,A7,len_nil]at*;omega))) U ?_
       refine RQ.v .none (.move (.t U)) U ?_
       refine RQ.v .none (.move (.t U)) U ?_
       refine RQ.v .none (.BZ (.t U) Tryz.underlying9) U ?_
       refine RQ.v .none (.BR (q:=⟨b2,5,none⟩) (.t U) (λ w=>by kernel_rfl)) U ?_
       refine RQ.v .none (.BA (v:=(i64 n.e)) hS11 (λ _ h=>h) (i:=0) U (.t U) Tryz.isAgg3 U) U ?_
       refine RQ.v .none (.add (.t U) (.t U) (λ _=>by omega)) U ?_
       refine RQ.v .none (.JC (.t U) (.t U) Tryz.underlying9 (λ _=>by omega)) U ?_
       refine RQ.v .none (.EA (.t U) (.t U) (λ _=>by first|omega|(simp only[A5,A7,len_nil]at*;omega))) U ?_
       refine RQ.v .none (.assign (.t U)) U ?_
       refine RQ.nil (λ a hs w12 hS13=>CW.at [Y 2 (str ((([]++(Eng.sub o 0 ((len o)+n.e)))++[46])++(Eng.A4 o ((len o)+n.e))))] U ?_ a hs)
       refine CW.ret (hE.r1 U U ?_)
       have hq:CP n=(([]++(Eng.sub o 0 ((len o)+n.e)))++[46])++(Eng.A4 o ((len o)+n.e)):=by
        have ho:o=BF (1-n.e-len n.s)++n.s:=by
         rcases hl2 with h|h
         ·rw[KD (by omega)]at hF;rw[KD (by omega)];exact hF
         ·rw[show len o-len n.s=1-n.e-len n.s from by omega]at hF;exact hF
        rw[ho]
        have c1:(n.s==[])=false:=by simpa using hb7
        have c2:(decide (0<=n.e)&&decide (len n.s+n.e<=20))=false:=by rw[Bool.and_eq_false_iff,decide_eq_false_iff_not];left;omega
        have c3:(decide (n.e<0)&&decide (-20<=n.e))=true:=by rw[Bool.and_eq_true,decide_eq_true_eq,decide_eq_true_eq];omega
        simp only[CP,c1,c2,c3,hb1,if_true,if_false,Bool.false_eq_true]
       rw[hq];exact⟨rfl,hS13.low⟩
    ·refine CW.skip (CW.id (CW.sr (RL.m U U (RL.m U U (RL.u (.EA (.t U) (.t U) (λ _=>by first|omega|(simp only[A5,A7,len_nil]at*;omega))) U (RL.u (.EA (.t U) .c (λ _=>by first|omega|(simp only[A5,A7,len_nil]at*;omega))) U (RL.u (.BR (q:=⟨b2,5,none⟩) (.t U) (λ w=>by kernel_rfl)) U (RL.u (.BA (v:=(i64 n.e)) hS3 AX (i:=0) U (.t U) Tryz.isAgg3 U) U ?_))))))))
     refine RL.D5 hS3 .none Tryz.call86 (.cons (.t U) .nil) (λ _=>(lO n.e _ (by omega))) U (λ w14 hS15=>?_)
     refine RL.u (.EA (.t U) (.t U) (λ _=>by first|omega|(simp only[A5,A7,len_nil]at*;omega))) U (RL.a U U ?_)
     refine RL.nil (CW.at [Y 2 (str ((([]++n.s)++[101])++(Lib.itoa n.e)))] U (CW.ret (hE.r1 U U ?_)))
     clear hE
     have hq:CP n=(([]++n.s)++[101])++(Lib.itoa n.e):=by
      unfold CP
      (try dsimp only)
      (repeat' split)
      all_goals first|rfl|(exfalso;omega)|(exfalso;simp_all;done)|(simp_all;done)|(exfalso;simp_all;omega)
     rw[hq];exact⟨rfl,hS15.low⟩
theorem AA6(s:A1)(w:World)(hb:len s<=1099511627776):
  Calls Tryz.prog 56 [(str s)].toArray w λ e w'=>e= .returned (str (DE s))/\Ext w w':=by
 refine CW.BN Tryz.func56 U Tryz.ntmps56 (Nat.le_of_ble_eq_true U) λ Q hE=>?_
 have hS:St w nM w nM []:=St.start ⟨λ _ _ _ h=>by cases h⟩
 refine CW.weaken [0] (L':=[Y 0 (str s)]) ?_ U
 refine CW.sr (RL.u (.assign .c) U (RL.nil (CW.id (CW.seq ?_))))
 refine CW.sr (RL.m U U ?_)
 refine RL.DC .none Tryz.call52 (.cons (.t U) .nil) (λ _=>(UG s _ (by omega))) U ?_
 refine RL.nil (CW.at [Y 0 (str s),Y 4 (.bool (D7 s))] U ?_)
 refine CW.cond rfl ?_ ?_<;>intro hb1<;>try simp only[zb]at hb1
 ·refine CW.sr (RL.m U U (RL.a U U (RL.nil (CW.id (CW.ret (hE.r1 U U ?_))))))
  exact⟨by unfold DE;rw[if_pos hb1],hS.low⟩
 ·refine CW.skip (CW.id (CW.sr (RL.m U U ?_)))
  refine RL.D5 hS .none Tryz.call53 (.cons (.t U) .nil) (λ _=>(WO s _ (by omega))) U (λ w1 hS2=>?_)
  refine RL.a U U ?_
  refine RL.nil (CW.at [Y 2 (str (IU s))] U (CW.ret (hE.r1 U U ?_)))
  clear hE
  exact⟨by unfold DE;rw[if_neg (by simp_all)],hS2.low⟩
end Go.Proofs.YtmjpjbmeamnfpaaGreatDoor
set_option maxRecDepth 100000
namespace Go.Proofs.YtmjpjbmeamnfpaaGreatDoor
open Go.Eng
end Go.Proofs.YtmjpjbmeamnfpaaGreatDoor
