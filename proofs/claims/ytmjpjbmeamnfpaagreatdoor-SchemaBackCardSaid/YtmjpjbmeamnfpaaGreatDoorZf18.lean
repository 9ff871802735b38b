/- Lemmas for the card. -/
import Derived.Test.YtmjpjbmeamnfpaaGreatDoorZf17
set_option linter.unusedVariables false
set_option linter.unusedSimpArgs false
set_option maxRecDepth 100000
namespace Go.Proofs.YtmjpjbmeamnfpaaGreatDoor
open Go.Proofs.Tryz
open Go.Eng
theorem oT(n:Int)(w:World)(ih: ∀(k:Int) (w:World),n<k->k<0->Calls prog 86 [i64 k].toArray w λ e w'=>e= .returned (str (Lib.itoa k))/\Ext w w')(h: -1000000<=n/\n<=1000000):
  Calls prog 86 [(i64 n)].toArray w λ e w'=>e= .returned (str (Lib.itoa n))/\Ext w w':=by
 refine CW.BH func86 U ntmps86 (Nat.le_of_ble_eq_true U) λ Q hE=>?_
 have hS:St w nM w nM []:=Ak ⟨λ _ _ _ h=>by cases h⟩
 refine An [0] (L':=[Y 0 (i64 n)]) ?_ U
 refine Ad (Ab (.assign .c) U (Aa (Ac (Ag ?_))))
 refine Ad (Ae U U (Ab (.gtr (.t U) .c) U (Ae U U (RL.v (.pos U U) (.move (.t U)) U (RL.v (.pos U U) (.lss (.g U (λ h=>h)) .c) U (Ab (.and (.t U) (.g U (λ h=>h))) U (Aa (Ac ?_))))))))
 refine Af rfl ?_ ?_<;>intro hb1<;>try simp only[zb]at hb1
 ·refine Ad (Ae U U (Ab (.sub .c (.t U) (λ _=>by omega)) U (Ab (.BD (r:=48-n) (.t U) underlying3 underlying5 (λ _=>by exact Eng.wrap_u8 (by omega))) U ?_)))
  refine RL.buildSlice (n:=1) (sz:=1) (e:=5) (vs:=[(0,(.int .u8 (48-n)))]) (cs:=[(.int .u8 (48-n))]) hS (.cons (.t U) .nil) U U (λ w=>by kernel_rfl) U (λ v1 w2 M3 hS4 hle5=>?_)
  replace hS4:St w nM w2 M3 [.own 5 1 v1 (([48-n]:List Int)).length ((([48-n]:List Int)).flatMap AQ)]:=hS4
  refine Ab (.N5 hS4 AR (hS4.sl (i:=0) U) (.t U) underlying110 underlying5 underlying9) U (Ab (.E8 .c (.t U) (λ _=>by first|omega|(have hz6:=P7 (-(-n/10));simp only[toStr,List.map_cons,List.map_nil,A6,len_nil];omega))) U (Aj U U (Aa (Ac ?_))))
  refine Ah (hE.r1 U U ?_)
  exact⟨by rw[vG (by omega) (by omega)],hS4.low⟩
 ·refine Ai (Ac (Ag (Ad (Ae U U (Ab (.lss (.t U) .c) U (Aa (Ac ?_)))))))
  refine Af rfl ?_ ?_<;>intro hb2<;>try simp only[zb]at hb2
  ·refine Ag (An [0] (L':=[Y 0 (i64 n)]) ?_ U)
   refine CW.regionF [.is true (i64 n),.is true (i64 (-((-(n))/10))),.is true (str (Lib.itoa (-((-(n))/10)))),.is true (i64 n),.is true (i64 (-((-(n))%10))),.is true (i64 (48-(-((-(n))%10)))),.is true (.int .u8 (48-(-((-(n))%10)))),.sl 1 (([48-(-((-(n))%10))]:List Int)).length ((([48-(-((-(n))%10))]:List Int)).flatMap AQ),.is true (str (toStr (([48-(-((-(n))%10))]:List Int)))),.is true (str ((Lib.itoa (-((-(n))/10)))++(toStr (([48-(-((-(n))%10))]:List Int))))),.is true (str ((Lib.itoa (-((-(n))/10)))++(toStr (([48-(-((-(n))%10))]:List Int)))))] hS N6 [0] U (by decide+kernel) (.cons ?_ (.cons ?_ (.cons ?_ (.cons ?_ (.cons ?_ (.cons ?_ (.cons ?_ (.cons ?_ (.cons ?_ (.cons ?_ (.cons ?_ (.nil)))))))))))) ?_
   ·intro LL w6 M7 hle9 hS8 hK hD
    refine Ab (.move (.t (hK _ _ U))) U ?_
    exact Aa (Al λ a hs=>⟨_,_,Mem.le.refl _,hS8,hs,_,_,rfl,rfl,rfl⟩)
   ·intro LL w10 M11 hle13 hS12 hK hD
    obtain⟨g18,v18,hl18,rfl,rfl⟩:=hD 0 (by decide+kernel)
    refine Ab (.eR (r:= -((-(n))/10)) (.t hl18) .c (λ _=>by omega) (λ _=>by rw[vH (by omega)];exact Eng.wrap_i64 (by omega))) U ?_
    exact Aa (Al λ a hs=>⟨_,_,Mem.le.refl _,hS12,hs,_,_,rfl,rfl,rfl⟩)
   ·intro LL w14 M15 hle17 hS16 hK hD
    obtain⟨g19,v19,hl19,rfl,rfl⟩:=hD 1 (by decide+kernel)
    refine RL.D6 hS16 .none call86 (.cons (.t hl19) .nil) (λ _=>(ih (-((-(n))/10)) _ (by omega) (by omega))) U (λ w18 hS19=>?_)
    exact Aa (Al λ a hs=>⟨_,_,Mem.le.refl _,hS19,hs,_,_,rfl,rfl,rfl⟩)
   ·intro LL w20 M21 hle23 hS22 hK hD
    refine Ab (.move (.t (hK _ _ U))) U ?_
    exact Aa (Al λ a hs=>⟨_,_,Mem.le.refl _,hS22,hs,_,_,rfl,rfl,rfl⟩)
   ·intro LL w24 M25 hle27 hS26 hK hD
    obtain⟨g21,v21,hl21,rfl,rfl⟩:=hD 3 (by decide+kernel)
    refine Ab (.eS (r:= -((-(n))%10)) (.t hl21) .c (λ _=>by omega) (λ _=>by exact vI (by omega))) U ?_
    exact Aa (Al λ a hs=>⟨_,_,Mem.le.refl _,hS26,hs,_,_,rfl,rfl,rfl⟩)
   ·intro LL w28 M29 hle31 hS30 hK hD
    obtain⟨g22,v22,hl22,rfl,rfl⟩:=hD 4 (by decide+kernel)
    refine Ab (.sub .c (.t hl22) (λ _=>by omega)) U ?_
    exact Aa (Al λ a hs=>⟨_,_,Mem.le.refl _,hS30,hs,_,_,rfl,rfl,rfl⟩)
   ·intro LL w32 M33 hle35 hS34 hK hD
    obtain⟨g23,v23,hl23,rfl,rfl⟩:=hD 5 (by decide+kernel)
    refine Ab (.BD (r:=48-(-((-(n))%10))) (.t hl23) underlying3 underlying5 (λ _=>by exact Eng.wrap_u8 (by omega))) U ?_
    exact Aa (Al λ a hs=>⟨_,_,Mem.le.refl _,hS34,hs,_,_,rfl,rfl,rfl⟩)
   ·intro LL w36 M37 hle39 hS38 hK hD
    obtain⟨g24,v24,hl24,rfl,rfl⟩:=hD 6 (by decide+kernel)
    refine RL.buildSlice (n:=1) (sz:=1) (e:=5) (vs:=[(0,(.int .u8 (48-(-((-(n))%10)))))]) (cs:=[(.int .u8 (48-(-((-(n))%10))))]) hS38 (.cons (.t hl24) .nil) U U (λ w=>by kernel_rfl) U (λ v40 w41 M42 hS43 hle44=>?_)
    have hfact:=(hS43.sl (i:=0) U)
    replace hS43:=hS43.erase 0 U
    exact Aa (Al λ a hs=>⟨_,_,hle44,hS43,hs,_,_,rfl,rfl,hfact⟩)
   ·intro LL w45 M46 hle48 hS47 hK hD
    obtain⟨g25,v25,hl25,rfl,hsl25⟩:=hD 7 (by decide+kernel)
    refine Ab (.N5 hS47 AR hsl25 (.t hl25) underlying110 underlying5 underlying9) U ?_
    exact Aa (Al λ a hs=>⟨_,_,Mem.le.refl _,hS47,hs,_,_,rfl,rfl,rfl⟩)
   ·intro LL w49 M50 hle52 hS51 hK hD
    obtain⟨g20,v20,hl20,rfl,rfl⟩:=hD 2 (by decide+kernel)
    obtain⟨g26,v26,hl26,rfl,rfl⟩:=hD 8 (by decide+kernel)
    refine Ab (.E8 (.t hl20) (.t hl26) (λ _=>by first|omega|(have hz6:=P7 (-(-n/10));simp only[toStr,List.map_cons,List.map_nil,A6,len_nil];omega))) U ?_
    exact Aa (Al λ a hs=>⟨_,_,Mem.le.refl _,hS51,hs,_,_,rfl,rfl,rfl⟩)
   ·intro LL w53 M54 hle56 hS55 hK hD
    obtain⟨g27,v27,hl27,rfl,rfl⟩:=hD 9 (by decide+kernel)
    obtain⟨g27,v27,hl27,rfl,rfl⟩:=hD 9 (by decide+kernel)
    refine Ab (.assign (.t hl27)) U ?_
    exact Aa (Al λ a hs=>⟨_,_,Mem.le.refl _,hS55,hs,_,_,rfl,rfl,rfl⟩)
   intro w57 M58 LL hle60 hS59 hK hD
   obtain⟨g2,v2,hl2,rfl,rfl⟩:=hD 10 (by decide)
   refine fV (E:=[Y 0 (i64 n),Y 2 (str ((Lib.itoa (-((-(n))/10)))++(toStr (([48-(-((-(n))%10))]:List Int)))))]) (.cons (hK _ _ U) (.cons hl2 .nil)) ?_
   refine(CW.at [Y 2 (str ((Lib.itoa (-((-(n))/10)))++(toStr (([48-(-((-(n))%10))]:List Int)))))] U ?_)
   refine Ah (hE.r1 U U ?_)
   exact⟨by rw[vF (k:=n) (by omega),show(48- -(-n%10):Int)=48+ -n%10 from by omega],hS59.low⟩
  ·refine Ai (Ac (Ad (Ae U U (Ab (.rem (.t U) .c (λ _=>by omega)) U (Ab (.add .c (.t U) (λ _=>by omega)) U (Ab (.BD (r:=48+(n%10)) (.t U) underlying3 underlying5 (λ _=>by exact Eng.wrap_u8 (by omega))) U ?_))))))
   refine RL.buildSlice (n:=1) (sz:=1) (e:=5) (vs:=[(0,(.int .u8 (48+(n%10))))]) (cs:=[(.int .u8 (48+(n%10)))]) hS (.cons (.t U) .nil) U U (λ w=>by kernel_rfl) U (λ v61 w62 M63 hS64 hle65=>?_)
   replace hS64:St w nM w62 M63 [.own 5 1 v61 (([48+(n%10)]:List Int)).length ((([48+(n%10)]:List Int)).flatMap AQ)]:=hS64
   refine Ab (.N5 hS64 AR (hS64.sl (i:=0) U) (.t U) underlying110 underlying5 underlying9) U (Aj U U (Aa (Ac ?_)))
   refine Ag (Am ?_)
   refine CW.loop (σ:=Int×A1×Mem) (λ(k,o,Ml)=>[Y 0 (i64 k),Y 3 (str o)]) (λ(k,o,Ml) wl=>St w nM wl Ml [.own 5 1 v61 (([48+(n%10)]:List Int)).length ((([48+(n%10)]:List Int)).flatMap AQ)]/\0<=k/\k<=1000000/\len o+k<=1000001/\Lib.itoa n=(if 10<=k then Lib.itoa (k/10)else [])++o) (λ(k,o,Ml)=>k.toNat) ((n,toStr [48+n%10],M63)) [0,3] U ?_ ?_
   ·refine⟨hS64,?_⟩;exact⟨by omega,by omega,by unfold toStr;simp only[List.map_cons,List.map_nil,A6,len_nil];omega,SR (by omega)⟩
   ·rintro⟨k,o,Ml⟩ wl ⟨hS66,hk,hk2,hlo,hF⟩
    refine Ag (Ad (Ae U U (Ab (.geq (.t U) .c) U (Aa (Ac ?_)))))
    refine Af rfl ?_ ?_<;>intro hb3<;>try simp only[zb]at hb3
    ·refine Ai (Ac (Am (Ad (Ae U U (Ab (.quo (.t U) .c (λ _=>by omega)) U (Aj U U (Aa (Ac ?_))))))))
     refine CW.region (Ae U U (Ab (.rem (.t U) .c (λ _=>by omega)) U (Ab (.add .c (.t U) (λ _=>by omega)) U (Ab (.BD (r:=48+((k/10)%10)) (.t U) underlying3 underlying5 (λ _=>by exact Eng.wrap_u8 (by omega))) U ?_))))
     refine RL.buildSlice (n:=1) (sz:=1) (e:=5) (vs:=[(0,(.int .u8 (48+((k/10)%10))))]) (cs:=[(.int .u8 (48+((k/10)%10)))]) hS66 (.cons (.t U) .nil) U U (λ w=>by kernel_rfl) U (λ v67 w68 M69 hS70 hle71=>?_)
     replace hS70:St w nM w68 M69 [.own 5 1 v67 (([48+((k/10)%10)]:List Int)).length ((([48+((k/10)%10)]:List Int)).flatMap AQ),.own 5 1 v61 (([48+(n%10)]:List Int)).length ((([48+(n%10)]:List Int)).flatMap AQ)]:=hS70
     refine Ab (.N5 hS70 AR (hS70.sl (i:=0) U) (.t U) underlying110 underlying5 underlying9) U (Ae U U (Ab (.E8 (.t U) (.t U) (λ _=>by first|omega|(have hz6:=P7 (-(-n/10));simp only[toStr,List.map_cons,List.map_nil,A6,len_nil];omega))) U (Aj U U ?_)))
     replace hS70:=hS70.erase 0 U
     refine Aa λ a hs=>Exists.intro ((k/10,toStr [48+k/10%10]++o,M69)) ⟨hs.BC [0,3],?_,?_⟩
     ·refine⟨hS70,?_⟩
      refine⟨by omega,by omega,by unfold toStr;simp only[List.map_cons,List.map_nil,A5,A6,len_nil];omega,?_⟩
      rw[hF,if_pos (by omega),SR (k:=k/10) (by omega),List.append_assoc]
     ·show Int.toNat _<Int.toNat _;omega
    ·refine CW.exit (CW.at [Y 3 (str o)] U ?_)
     refine Ad (Ae U U (Aj U U (Aa (Ac (Ah (hE.r1 U U ?_))))))
     exact⟨by rw[hF,if_neg (by omega)];rfl,hS66.low⟩
theorem oU(n:Int)(w:World)(h: -1000000<=n/\n<=1000000):Calls prog 86 [i64 n].toArray w λ e w'=>e= .returned (str (Lib.itoa n))/\Ext w w':=by
 have key: ∀(k:Nat) (n:Int) (w:World),(-n).toNat<=k-> -1000000<=n/\n<=1000000->Calls prog 86 [i64 n].toArray w λ e w'=>e= .returned (str (Lib.itoa n))/\Ext w w':=by
  intro k
  induction k with
  |zero=>intro n w hk h;exact oT n w (λ k w h1 h2=>by omega) h
  |succ k ih=>intro n w hk h;exact oT n w (λ j w h1 h2=>ih j w (by omega) (by omega)) h
 exact key _ n w (Nat.le_refl _) h
theorem AQ6(n:Nd)(w:World)(hb:len n.s<=1099511627776)(he: -1000000<=n.e/\n.e<=1000000):
  Calls prog 57 [(H9 n)].toArray w λ e w'=>e= .returned (str (CP n))/\Ext w w':=by
 refine CW.BH func57 U ntmps57 (Nat.le_of_ble_eq_true U) λ Q hE=>?_
 have:=A4 n.s
 have hz:=SM (1-n.e-len n.s)
 have hz2:=SM n.e
 have hz5:=P7 n.e
 have hS:St w nM w nM []:=Ak ⟨λ _ _ _ h=>by cases h⟩
 refine An [0] (L':=[Y 0 (H9 n)]) ?_ U
 refine Ad ?_
 refine RL.box (v:=(H9 n)) hS (.t U) U (λ w1 b2 hS3=>?_)
 refine Ab (.assign .c) U (Aa (Ac ?_))
 refine Ad (Ab (.assign .c) U (Aa (Ac (Ag ?_))))
 refine Ad (Ab (.BI (q:=⟨b2,4,none⟩) (.t U) (λ w=>by kernel_rfl)) U (Ab (.B8 (v:=(.bool n.neg)) hS3 AR (i:=0) U (.t U) isAgg4 U) U (Aa (Ac ?_))))
 refine Af rfl ?_ ?_<;>intro hb1<;>try simp only[zb]at hb1
 ·refine CW.region (Ab (.assign .c) U (Aa (Ac (Ad ?_))))
  refine Ab (.BI (q:=⟨b2,3,none⟩) (.t U) (λ w=>by kernel_rfl)) U (Ab (.B8 (v:=(str n.s)) hS3 AR (i:=0) U (.t U) isAgg9 U) U (Aj U U (Aa (Ac ?_))))
  refine Ag (Ad (Ae U U (Ab (.O1 (.t U) .c) U (Aa (Ac ?_)))))
  refine Af rfl ?_ ?_<;>intro hb2<;>try simp only[zb]at hb2
  ·refine Ad (Ab (.assign .c) U (Aa (Ac (Ah (hE.r1 U U ?_)))))
   clear hE
   have hq:CP n=[48]:=by
    unfold CP
    (try dsimp only)
    (repeat' split)
    all_goals first|rfl|(exfalso;omega)|(exfalso;simp_all;done)|(simp_all;done)|(exfalso;simp_all;omega)
   rw[hq];exact⟨rfl,hS3.low⟩
  ·refine Ai (Ac (Ag (Ad (Ab (.BI (q:=⟨b2,5,none⟩) (.t U) (λ w=>by kernel_rfl)) U (Ab (.B8 (v:=(i64 n.e)) hS3 AR (i:=0) U (.t U) isAgg3 U) U (Ab (.geq (.t U) .c) U (Ae U U (RL.v (.pos U U) (.move (.t U)) U (RL.v (.pos U U) (.BR (.g U (λ h=>h)) underlying9) U ?_)))))))))
   refine RL.v (.pos U U) (.BI (q:=⟨b2,5,none⟩) (.t U) (λ w=>by kernel_rfl)) U (RL.v (.pos U U) (.B8 (v:=(i64 n.e)) hS3 AR (i:=0) U (.g U (λ h=>h)) isAgg3 U) U (RL.v (.pos U U) (.add (.g U (λ h=>h)) (.g U (λ h=>h)) (λ hW=>by simp only[zb]at hW;first|omega|(simp only[A5,A6,len_nil]at*;omega))) U (RL.v (.pos U U) (.leq (.g U (λ h=>h)) .c) U (Ab (.and (.t U) (.g U (λ h=>h))) U (Aa (Ac ?_))))))
   refine Af rfl ?_ ?_<;>intro hb3<;>try simp only[zb]at hb3
   ·refine Ag (Ad (Ab (.assign .c) U (Aa (Ac ?_))))
    refine Am ?_
    refine CW.loop (σ:=Int×A1) (λ(k,o)=>[Y 1 (.pointer (some ⟨b2,0,none⟩)),Y 3 (str [45]),Y 4 (str o),Y 5 (i64 k)]) (λ(k,o) wl=>St w nM wl nM [.box b2 (JV n []) 46]/\0<=k/\k<=n.e/\o=n.s++BB k/\len o=len n.s+k) (λ(k,o)=>(n.e-k).toNat) ((0,n.s)) [1,3,4,5] U ?_ ?_
    ·refine⟨hS3,?_⟩;exact⟨by omega,by omega,by rw[KR (by omega)];simp,by omega⟩
    ·rintro⟨k,o⟩ wl ⟨hS4,h0,h1,hF,hl⟩
     refine Ag (Ad (Ae U U (Ab (.BI (q:=⟨b2,5,none⟩) (.t U) (λ w=>by kernel_rfl)) U (Ab (.B8 (v:=(i64 n.e)) hS4 AR (i:=0) U (.t U) isAgg3 U) U (Ab (.lss (.t U) (.t U)) U (Aa (Ac ?_)))))))
     refine Af rfl ?_ ?_<;>intro hb4<;>try simp only[zb]at hb4
     ·refine Ai (Ac (Ag (Am ?_)))
      refine CW.region (Ae U U (Ab (.E8 (.t U) .c (λ _=>by first|omega|(simp only[A5,A6,len_nil]at*;omega))) U (Aj U U (Aa (Ac ?_)))))
      refine CW.region (Ae U U (Ab (.add (.t U) .c (λ _=>by omega)) U (Aj U U ?_)))
      refine Aa λ a hs=>Exists.intro ((k+1,o++[48])) ⟨hs.BC [1,3,4,5],?_,?_⟩
      ·refine⟨hS4,?_⟩
       exact⟨by omega,by omega,by rw[hF,aV h0];simp,by rw[A5,A6,len_nil];omega⟩
      ·show Int.toNat _<Int.toNat _;omega
     ·refine CW.exit (CW.at [Y 3 (str [45]),Y 4 (str o)] U ?_)
      refine Ad (Ae U U (Ae U U (Ab (.E8 (.t U) (.t U) (λ _=>by first|omega|(simp only[A5,A6,len_nil]at*;omega))) U (Aj U U (Aa (Ac (Ah (hE.r1 U U ?_))))))))
      clear hE
      have hq:CP n=[45]++o:=by
       have ho:o=n.s++BB n.e:=by rw[hF,show k=n.e from by omega]
       rw[ho]
       unfold CP
       (try dsimp only)
       (repeat' split)
       all_goals first|rfl|(exfalso;simp_all;done)|(simp_all;done)|(exfalso;simp_all;omega)
      rw[hq];exact⟨rfl,hS4.low⟩
   ·refine Ai (Ac (Ag (Ad (Ab (.BI (q:=⟨b2,5,none⟩) (.t U) (λ w=>by kernel_rfl)) U (Ab (.B8 (v:=(i64 n.e)) hS3 AR (i:=0) U (.t U) isAgg3 U) U (Ab (.lss (.t U) .c) U (Ae U U (RL.v (.pos U U) (.BI (q:=⟨b2,5,none⟩) (.t U) (λ w=>by kernel_rfl)) U (RL.v (.pos U U) (.B8 (v:=(i64 n.e)) hS3 AR (i:=0) U (.g U (λ h=>h)) isAgg3 U) U ?_)))))))))
    refine RL.v (.pos U U) (.geq (.g U (λ h=>h)) .c) U (Ab (.and (.t U) (.g U (λ h=>h))) U (Aa (Ac ?_)))
    refine Af rfl ?_ ?_<;>intro hb5<;>try simp only[zb]at hb5
    ·refine Ag (Am ?_)
     refine CW.loop (σ:=A1) (λ o=>[Y 1 (.pointer (some ⟨b2,0,none⟩)),Y 3 (str [45]),Y 4 (str o)]) (λ o wl=>St w nM wl nM [.box b2 (JV n []) 46]/\o=BB (len o-len n.s)++n.s/\len n.s<=len o/\(len o<=len n.s\/len o<=1-n.e)) (λ o=>(1-n.e-len o).toNat) n.s [1,3,4] U ?_ ?_
     ·refine⟨hS3,?_⟩;exact⟨by rw[KR (by omega)];simp,by omega,by omega⟩
     ·rintro o wl ⟨hS5,hF,hl,hl2⟩
      have hz3:=HB o 0 (len o+n.e)
      have hz4:=LU o (len o+n.e)
      refine Ag (Ad (Ae U U (Ab (.BR (.t U) underlying9) U (Ab (.BI (q:=⟨b2,5,none⟩) (.t U) (λ w=>by kernel_rfl)) U (Ab (.B8 (v:=(i64 n.e)) hS5 AR (i:=0) U (.t U) isAgg3 U) U (Ab (.sub .c (.t U) (λ _=>by omega)) U (Ab (.lss (.t U) (.t U)) U (Aa (Ac ?_)))))))))
      refine Af rfl ?_ ?_<;>intro hb6<;>try simp only[zb]at hb6
      ·refine Ai (Ac (Am ?_))
       refine CW.region (Ae U U (Ab (.E8 .c (.t U) (λ _=>by first|omega|(simp only[A5,A6,len_nil]at*;omega))) U (Aj U U ?_)))
       refine Aa λ a hs=>Exists.intro ([48]++o) ⟨hs.BC [1,3,4],?_,?_⟩
       ·refine⟨hS5,?_⟩
        exact⟨by rw[A5,A6,len_nil,show 0+1+len o-len n.s=len o-len n.s+1 from by omega,k8 (by omega)];exact congrArg (48:: ·) hF,by rw[A5,A6,len_nil];omega,by rw[A5,A6,len_nil];omega⟩
       ·show Int.toNat _<Int.toNat _;rw[A5,A6,len_nil];omega
      ·refine CW.exit (CW.at [Y 1 (.pointer (some ⟨b2,0,none⟩)),Y 3 (str [45]),Y 4 (str o)] U ?_)
       refine Ag ?_
       refine CW.P5 hS5 N6 (by decide+kernel) ?_
       refine RQ.v .none (.move (.t U)) U ?_
       refine RQ.v .none (.move (.t U)) U ?_
       refine RQ.v .none (.move (.t U)) U ?_
       refine RQ.v .none (.BR (.t U) underlying9) U ?_
       refine RQ.v .none (.BI (q:=⟨b2,5,none⟩) (.t U) (λ w=>by kernel_rfl)) U ?_
       refine RQ.v .none (.B8 (v:=(i64 n.e)) hS5 (λ _ h=>h) (i:=0) U (.t U) isAgg3 U) U ?_
       refine RQ.v .none (.add (.t U) (.t U) (λ _=>by omega)) U ?_
       refine RQ.v .none (.QI (.t U) (.t U) underlying9 (λ _=>by omega)) U ?_
       refine RQ.v .none (.E8 (.t U) (.t U) (λ _=>by first|omega|(simp only[A5,A6,len_nil]at*;omega))) U ?_
       refine RQ.v .none (.E8 (.t U) .c (λ _=>by first|omega|(simp only[A5,A6,len_nil]at*;omega))) U ?_
       refine RQ.v .none (.move (.t U)) U ?_
       refine RQ.v .none (.move (.t U)) U ?_
       refine RQ.v .none (.BR (.t U) underlying9) U ?_
       refine RQ.v .none (.BI (q:=⟨b2,5,none⟩) (.t U) (λ w=>by kernel_rfl)) U ?_
       refine RQ.v .none (.B8 (v:=(i64 n.e)) hS5 (λ _ h=>h) (i:=0) U (.t U) isAgg3 U) U ?_
       refine RQ.v .none (.add (.t U) (.t U) (λ _=>by omega)) U ?_
       refine RQ.v .none (.JS (.t U) (.t U) underlying9 (λ _=>by omega)) U ?_
       refine RQ.v .none (.E8 (.t U) (.t U) (λ _=>by first|omega|(simp only[A5,A6,len_nil]at*;omega))) U ?_
       refine RQ.v .none (.assign (.t U)) U ?_
       refine RQ.nil (λ a hs w6 hS7=>CW.at [Y 2 (str ((([45]++(Eng.sub o 0 ((len o)+n.e)))++[46])++(Eng.A3 o ((len o)+n.e))))] U ?_ a hs)
       refine Ah (hE.r1 U U ?_)
       have hq:CP n=(([45]++(Eng.sub o 0 ((len o)+n.e)))++[46])++(Eng.A3 o ((len o)+n.e)):=by
        have ho:o=BB (1-n.e-len n.s)++n.s:=by
         rcases hl2 with h|h
         ·rw[KR (by omega)]at hF;rw[KR (by omega)];exact hF
         ·rw[show len o-len n.s=1-n.e-len n.s from by omega]at hF;exact hF
        rw[ho]
        have c1:(n.s==[])=false:=by simpa using hb2
        have c2:(decide (0<=n.e)&&decide (len n.s+n.e<=20))=false:=by rw[Bool.and_eq_false_iff,decide_eq_false_iff_not];left;omega
        have c3:(decide (n.e<0)&&decide (-20<=n.e))=true:=by rw[Bool.and_eq_true,decide_eq_true_eq,decide_eq_true_eq];omega
        simp only[CP,c1,c2,c3,hb1,if_true,if_false,Bool.false_eq_true]
       rw[hq];exact⟨rfl,hS7.low⟩
    ·refine Ai (Ac (Ad (Ae U U (Ae U U (Ab (.E8 (.t U) (.t U) (λ _=>by first|omega|(simp only[A5,A6,len_nil]at*;omega))) U (Ab (.E8 (.t U) .c (λ _=>by first|omega|(simp only[A5,A6,len_nil]at*;omega))) U (Ab (.BI (q:=⟨b2,5,none⟩) (.t U) (λ w=>by kernel_rfl)) U (Ab (.B8 (v:=(i64 n.e)) hS3 AR (i:=0) U (.t U) isAgg3 U) U ?_))))))))
     refine RL.D6 hS3 .none call86 (.cons (.t U) .nil) (λ _=>(oU n.e _ (by omega))) U (λ w8 hS9=>?_)
     refine Ab (.E8 (.t U) (.t U) (λ _=>by first|omega|(simp only[A5,A6,len_nil]at*;omega))) U (Aj U U ?_)
     refine Aa (CW.at [Y 2 (str ((([45]++n.s)++[101])++(Lib.itoa n.e)))] U (Ah (hE.r1 U U ?_)))
     clear hE
     have hq:CP n=(([45]++n.s)++[101])++(Lib.itoa n.e):=by
      unfold CP
      (try dsimp only)
      (repeat' split)
      all_goals first|rfl|(exfalso;omega)|(exfalso;simp_all;done)|(simp_all;done)|(exfalso;simp_all;omega)
     rw[hq];exact⟨rfl,hS9.low⟩
 ·refine Ai (Ac (Ad (Ab (.BI (q:=⟨b2,3,none⟩) (.t U) (λ w=>by kernel_rfl)) U (Ab (.B8 (v:=(str n.s)) hS3 AR (i:=0) U (.t U) isAgg9 U) U (Aj U U (Aa (Ac ?_)))))))
  refine Ag (Ad (Ae U U (Ab (.O1 (.t U) .c) U (Aa (Ac ?_)))))
  refine Af rfl ?_ ?_<;>intro hb7<;>try simp only[zb]at hb7
  ·refine Ad (Ab (.assign .c) U (Aa (Ac (Ah (hE.r1 U U ?_)))))
   clear hE
   have hq:CP n=[48]:=by
    unfold CP
    (try dsimp only)
    (repeat' split)
    all_goals first|rfl|(exfalso;omega)|(exfalso;simp_all;done)|(simp_all;done)|(exfalso;simp_all;omega)
   rw[hq];exact⟨rfl,hS3.low⟩
  ·refine Ai (Ac (Ag (Ad (Ab (.BI (q:=⟨b2,5,none⟩) (.t U) (λ w=>by kernel_rfl)) U (Ab (.B8 (v:=(i64 n.e)) hS3 AR (i:=0) U (.t U) isAgg3 U) U (Ab (.geq (.t U) .c) U (Ae U U (RL.v (.pos U U) (.move (.t U)) U (RL.v (.pos U U) (.BR (.g U (λ h=>h)) underlying9) U ?_)))))))))
   refine RL.v (.pos U U) (.BI (q:=⟨b2,5,none⟩) (.t U) (λ w=>by kernel_rfl)) U (RL.v (.pos U U) (.B8 (v:=(i64 n.e)) hS3 AR (i:=0) U (.g U (λ h=>h)) isAgg3 U) U (RL.v (.pos U U) (.add (.g U (λ h=>h)) (.g U (λ h=>h)) (λ hW=>by simp only[zb]at hW;first|omega|(simp only[A5,A6,len_nil]at*;omega))) U (RL.v (.pos U U) (.leq (.g U (λ h=>h)) .c) U (Ab (.and (.t U) (.g U (λ h=>h))) U (Aa (Ac ?_))))))
   refine Af rfl ?_ ?_<;>intro hb8<;>try simp only[zb]at hb8
   ·refine Ag (Ad (Ab (.assign .c) U (Aa (Ac ?_))))
    refine Am ?_
    refine CW.loop (σ:=Int×A1) (λ(k,o)=>[Y 1 (.pointer (some ⟨b2,0,none⟩)),Y 3 (str []),Y 4 (str o),Y 5 (i64 k)]) (λ(k,o) wl=>St w nM wl nM [.box b2 (JV n []) 46]/\0<=k/\k<=n.e/\o=n.s++BB k/\len o=len n.s+k) (λ(k,o)=>(n.e-k).toNat) ((0,n.s)) [1,3,4,5] U ?_ ?_
    ·refine⟨hS3,?_⟩;exact⟨by omega,by omega,by rw[KR (by omega)];simp,by omega⟩
    ·rintro⟨k,o⟩ wl ⟨hS10,h0,h1,hF,hl⟩
     refine Ag (Ad (Ae U U (Ab (.BI (q:=⟨b2,5,none⟩) (.t U) (λ w=>by kernel_rfl)) U (Ab (.B8 (v:=(i64 n.e)) hS10 AR (i:=0) U (.t U) isAgg3 U) U (Ab (.lss (.t U) (.t U)) U (Aa (Ac ?_)))))))
     refine Af rfl ?_ ?_<;>intro hb9<;>try simp only[zb]at hb9
     ·refine Ai (Ac (Ag (Am ?_)))
      refine CW.region (Ae U U (Ab (.E8 (.t U) .c (λ _=>by first|omega|(simp only[A5,A6,len_nil]at*;omega))) U (Aj U U (Aa (Ac ?_)))))
      refine CW.region (Ae U U (Ab (.add (.t U) .c (λ _=>by omega)) U (Aj U U ?_)))
      refine Aa λ a hs=>Exists.intro ((k+1,o++[48])) ⟨hs.BC [1,3,4,5],?_,?_⟩
      ·refine⟨hS10,?_⟩
       exact⟨by omega,by omega,by rw[hF,aV h0];simp,by rw[A5,A6,len_nil];omega⟩
      ·show Int.toNat _<Int.toNat _;omega
     ·refine CW.exit (CW.at [Y 3 (str []),Y 4 (str o)] U ?_)
      refine Ad (Ae U U (Ae U U (Ab (.E8 (.t U) (.t U) (λ _=>by first|omega|(simp only[A5,A6,len_nil]at*;omega))) U (Aj U U (Aa (Ac (Ah (hE.r1 U U ?_))))))))
      clear hE
      have hq:CP n=[]++o:=by
       have ho:o=n.s++BB n.e:=by rw[hF,show k=n.e from by omega]
       rw[ho]
       unfold CP
       (try dsimp only)
       (repeat' split)
       all_goals first|rfl|(exfalso;simp_all;done)|(simp_all;done)|(exfalso;simp_all;omega)
      rw[hq];exact⟨rfl,hS10.low⟩
   ·refine Ai (Ac (Ag (Ad (Ab (.BI (q:=⟨b2,5,none⟩) (.t U) (λ w=>by kernel_rfl)) U (Ab (.B8 (v:=(i64 n.e)) hS3 AR (i:=0) U (.t U) isAgg3 U) U (Ab (.lss (.t U) .c) U (Ae U U (RL.v (.pos U U) (.BI (q:=⟨b2,5,none⟩) (.t U) (λ w=>by kernel_rfl)) U (RL.v (.pos U U) (.B8 (v:=(i64 n.e)) hS3 AR (i:=0) U (.g U (λ h=>h)) isAgg3 U) U ?_)))))))))
    refine RL.v (.pos U U) (.geq (.g U (λ h=>h)) .c) U (Ab (.and (.t U) (.g U (λ h=>h))) U (Aa (Ac ?_)))
    refine Af rfl ?_ ?_<;>intro hb10<;>try simp only[zb]at hb10
    ·refine Ag (Am ?_)
     refine CW.loop (σ:=A1) (λ o=>[Y 1 (.pointer (some ⟨b2,0,none⟩)),Y 3 (str []),Y 4 (str o)]) (λ o wl=>St w nM wl nM [.box b2 (JV n []) 46]/\o=BB (len o-len n.s)++n.s/\len n.s<=len o/\(len o<=len n.s\/len o<=1-n.e)) (λ o=>(1-n.e-len o).toNat) n.s [1,3,4] U ?_ ?_
     ·refine⟨hS3,?_⟩;exact⟨by rw[KR (by omega)];simp,by omega,by omega⟩
     ·rintro o wl ⟨hS11,hF,hl,hl2⟩
      have hz3:=HB o 0 (len o+n.e)
      have hz4:=LU o (len o+n.e)
      refine Ag (Ad (Ae U U (Ab (.BR (.t U) underlying9) U (Ab (.BI (q:=⟨b2,5,none⟩) (.t U) (λ w=>by kernel_rfl)) U (Ab (.B8 (v:=(i64 n.e)) hS11 AR (i:=0) U (.t U) isAgg3 U) U (Ab (.sub .c (.t U) (λ _=>by omega)) U (Ab (.lss (.t U) (.t U)) U (Aa (Ac ?_)))))))))
      refine Af rfl ?_ ?_<;>intro hb11<;>try simp only[zb]at hb11
      ·refine Ai (Ac (Am ?_))
       refine CW.region (Ae U U (Ab (.E8 .c (.t U) (λ _=>by first|omega|(simp only[A5,A6,len_nil]at*;omega))) U (Aj U U ?_)))
       refine Aa λ a hs=>Exists.intro ([48]++o) ⟨hs.BC [1,3,4],?_,?_⟩
       ·refine⟨hS11,?_⟩
        exact⟨by rw[A5,A6,len_nil,show 0+1+len o-len n.s=len o-len n.s+1 from by omega,k8 (by omega)];exact congrArg (48:: ·) hF,by rw[A5,A6,len_nil];omega,by rw[A5,A6,len_nil];omega⟩
       ·show Int.toNat _<Int.toNat _;rw[A5,A6,len_nil];omega
      ·refine CW.exit (CW.at [Y 1 (.pointer (some ⟨b2,0,none⟩)),Y 3 (str []),Y 4 (str o)] U ?_)
       refine Ag ?_
       refine CW.P5 hS11 N6 (by decide+kernel) ?_
       refine RQ.v .none (.move (.t U)) U ?_
       refine RQ.v .none (.move (.t U)) U ?_
       refine RQ.v .none (.move (.t U)) U ?_
       refine RQ.v .none (.BR (.t U) underlying9) U ?_
       refine RQ.v .none (.BI (q:=⟨b2,5,none⟩) (.t U) (λ w=>by kernel_rfl)) U ?_
       refine RQ.v .none (.B8 (v:=(i64 n.e)) hS11 (λ _ h=>h) (i:=0) U (.t U) isAgg3 U) U ?_
       refine RQ.v .none (.add (.t U) (.t U) (λ _=>by omega)) U ?_
       refine RQ.v .none (.QI (.t U) (.t U) underlying9 (λ _=>by omega)) U ?_
       refine RQ.v .none (.E8 (.t U) (.t U) (λ _=>by first|omega|(simp only[A5,A6,len_nil]at*;omega))) U ?_
       refine RQ.v .none (.E8 (.t U) .c (λ _=>by first|omega|(simp only[A5,A6,len_nil]at*;omega))) U ?_
       refine RQ.v .none (.move (.t U)) U ?_
       refine RQ.v .none (.move (.t U)) U ?_
       refine RQ.v .none (.BR (.t U) underlying9) U ?_
       refine RQ.v .none (.BI (q:=⟨b2,5,none⟩) (.t U) (λ w=>by kernel_rfl)) U ?_
       refine RQ.v .none (.B8 (v:=(i64 n.e)) hS11 (λ _ h=>h) (i:=0) U (.t U) isAgg3 U) U ?_
       refine RQ.v .none (.add (.t U) (.t U) (λ _=>by omega)) U ?_
       refine RQ.v .none (.JS (.t U) (.t U) underlying9 (λ _=>by omega)) U ?_
       refine RQ.v .none (.E8 (.t U) (.t U) (λ _=>by first|omega|(simp only[A5,A6,len_nil]at*;omega))) U ?_
       refine RQ.v .none (.assign (.t U)) U ?_
       refine RQ.nil (λ a hs w12 hS13=>CW.at [Y 2 (str ((([]++(Eng.sub o 0 ((len o)+n.e)))++[46])++(Eng.A3 o ((len o)+n.e))))] U ?_ a hs)
       refine Ah (hE.r1 U U ?_)
       have hq:CP n=(([]++(Eng.sub o 0 ((len o)+n.e)))++[46])++(Eng.A3 o ((len o)+n.e)):=by
        have ho:o=BB (1-n.e-len n.s)++n.s:=by
         rcases hl2 with h|h
         ·rw[KR (by omega)]at hF;rw[KR (by omega)];exact hF
         ·rw[show len o-len n.s=1-n.e-len n.s from by omega]at hF;exact hF
        rw[ho]
        have c1:(n.s==[])=false:=by simpa using hb7
        have c2:(decide (0<=n.e)&&decide (len n.s+n.e<=20))=false:=by rw[Bool.and_eq_false_iff,decide_eq_false_iff_not];left;omega
        have c3:(decide (n.e<0)&&decide (-20<=n.e))=true:=by rw[Bool.and_eq_true,decide_eq_true_eq,decide_eq_true_eq];omega
        simp only[CP,c1,c2,c3,hb1,if_true,if_false,Bool.false_eq_true]
       rw[hq];exact⟨rfl,hS13.low⟩
    ·refine Ai (Ac (Ad (Ae U U (Ae U U (Ab (.E8 (.t U) (.t U) (λ _=>by first|omega|(simp only[A5,A6,len_nil]at*;omega))) U (Ab (.E8 (.t U) .c (λ _=>by first|omega|(simp only[A5,A6,len_nil]at*;omega))) U (Ab (.BI (q:=⟨b2,5,none⟩) (.t U) (λ w=>by kernel_rfl)) U (Ab (.B8 (v:=(i64 n.e)) hS3 AR (i:=0) U (.t U) isAgg3 U) U ?_))))))))
     refine RL.D6 hS3 .none call86 (.cons (.t U) .nil) (λ _=>(oU n.e _ (by omega))) U (λ w14 hS15=>?_)
     refine Ab (.E8 (.t U) (.t U) (λ _=>by first|omega|(simp only[A5,A6,len_nil]at*;omega))) U (Aj U U ?_)
     refine Aa (CW.at [Y 2 (str ((([]++n.s)++[101])++(Lib.itoa n.e)))] U (Ah (hE.r1 U U ?_)))
     clear hE
     have hq:CP n=(([]++n.s)++[101])++(Lib.itoa n.e):=by
      unfold CP
      (try dsimp only)
      (repeat' split)
      all_goals first|rfl|(exfalso;omega)|(exfalso;simp_all;done)|(simp_all;done)|(exfalso;simp_all;omega)
     rw[hq];exact⟨rfl,hS15.low⟩
theorem AQ7(s:A1)(w:World)(hb:len s<=1099511627776):
  Calls prog 56 [(str s)].toArray w λ e w'=>e= .returned (str (CG s))/\Ext w w':=by
 refine CW.BH func56 U ntmps56 (Nat.le_of_ble_eq_true U) λ Q hE=>?_
 have hS:St w nM w nM []:=Ak ⟨λ _ _ _ h=>by cases h⟩
 refine An [0] (L':=[Y 0 (str s)]) ?_ U
 refine Ad (Ab (.assign .c) U (Aa (Ac (Ag ?_))))
 refine Ad (Ae U U ?_)
 refine RL.DC .none call52 (.cons (.t U) .nil) (λ _=>(Z0 s _ (by omega))) U ?_
 refine Aa (CW.at [Y 0 (str s),Y 4 (.bool (CF s))] U ?_)
 refine Af rfl ?_ ?_<;>intro hb1<;>try simp only[zb]at hb1
 ·refine Ad (Ae U U (Aj U U (Aa (Ac (Ah (hE.r1 U U ?_))))))
  exact⟨by unfold CG;rw[if_pos hb1],hS.low⟩
 ·refine Ai (Ac (Ad (Ae U U ?_)))
  refine RL.D6 hS .none call53 (.cons (.t U) .nil) (λ _=>(dK s _ (by omega))) U (λ w1 hS2=>?_)
  refine Aj U U ?_
  refine Aa (CW.at [Y 2 (str (J5 s))] U (Ah (hE.r1 U U ?_)))
  clear hE
  exact⟨by unfold CG;rw[if_neg (by simp_all)],hS2.low⟩
theorem oV(s:A1)(i:Int)(w:World)(h0:0<=i)(h1:i<=len s)(hb:len s<=1099511627776):
  Calls prog 278 [(str s),(i64 i)].toArray w λ e w'=>e= .returned (i64 (B9 (A3 s i)))/\w'=w:=by
 refine CW.BH func278 U ntmps278 (Nat.le_of_ble_eq_true U) λ Q hE=>?_
 have:=A4 s
 refine An [0,1] (L':=[Y 0 (str s),Y 1 (i64 i)]) ?_ U
 refine Ad (Ab (.assign .c) U (Aa (Ac (Ag ?_))))
 refine Ad (Ae U U (Ab (.add (.t U) .c (λ _=>by first|omega|(unfold BU at*;omega))) U (Ae U U (Ab (.BR (.t U) underlying9) U (Ab (.gtr (.t U) (.t U)) U (Ae U U (RL.v (.neg U U) (.move (.t U)) U (RL.v (.neg U U) (.move (.t U)) U (RL.v (.neg U U) (.C2 (.g U (λ h=>h)) (.g U (λ h=>h)) underlying9 (λ hW=>by simp only[zb]at hW;first|omega|(unfold BU at*;omega))) U (RL.v (.neg U U) (.neq (.g U (λ h=>h)) .c) U (Ab (.or (.t U) (.g U (λ h=>h))) U (Ae U U (RL.v (.neg U U) (.move (.t U)) U (RL.v (.neg U U) (.move (.t U)) U (RL.v (.neg U U) (.add (.g U (λ h=>h)) .c (λ hW=>by simp only[zb]at hW;first|omega|(unfold BU at*;omega))) U (RL.v (.neg U U) (.C2 (.g U (λ h=>h)) (.g U (λ h=>h)) underlying9 (λ hW=>by simp only[zb]at hW;first|omega|(unfold BU at*;omega))) U (RL.v (.neg U U) (.neq (.g U (λ h=>h)) .c) U (Ab (.or (.t U) (.g U (λ h=>h))) U (Aa (Ac ?_))))))))))))))))))))
 refine Af rfl ?_ ?_<;>intro hb1<;>try simp only[zb]at hb1
 ·refine Ad (Ab (.assign .c) U (Aa (Ac (Ah (hE.r1 U U ?_)))))
  exact⟨by rw[kG h0 (by omega)],rfl⟩
 ·have hn1:i+6<=len s/\A2 s i=92/\A2 s (i+1)=117:=by omega
  have hne:=(RY (s:=s) (i:=i+2) (j:=i+2) (by omega) (Int.le_refl _) (by omega)).2 U
  refine Ai (Ac (Ad (Ab (.assign .c) U (Aa (Ac ?_)))))
  refine Ag (Ad (Ae U U (Ab (.add (.t U) .c (λ _=>by first|omega|(unfold BU at*;omega))) U (Aj U U (Aa (Ac ?_))))))
  refine Am ?_
  refine CW.loop (σ:=Int×Int) (λ(n,k)=>[Y 0 (str s),Y 1 (i64 i),Y 5 (i64 n),Y 6 (i64 k)]) (λ(n,k) wl=>w=wl/\i+2<=k/\k<=i+6/\ER (Eng.sub s (i+2) k)=true/\n=FC (Eng.sub s (i+2) k)) (λ(n,k)=>(i+6-k).toNat) ((0,i+2)) [0,1,5,6] U ?_ ?_
  ·exact⟨rfl,by omega,by omega,by rw[hne];rfl,by rw[hne];rfl⟩
  ·rintro⟨n,k⟩ wl ⟨rfl,hk0,hk1,hok,hn⟩
   have hby:=LQ s k
   have hsl:=FB (s:=s) (i:=i+2) (j:=k) (by omega) hk0 (by omega)
   have hnb:=zD hok (by omega)
   rw[<-hn]at hnb
   refine Ag (Ad (Ae U U (Ae U U (Ab (.add (.t U) .c (λ _=>by first|omega|(unfold BU at*;omega))) U (Ab (.lss (.t U) (.t U)) U (Aa (Ac ?_)))))))
   refine Af rfl ?_ ?_<;>intro hb2<;>try simp only[zb]at hb2
   ·refine Ai (Ac (Ag (Am (Ad ?_))))
    refine Ae U U (Ae U U (Ab (.C2 (.t U) (.t U) underlying9 (λ _=>by first|omega|(unfold BU at*;omega))) U (Ab (.BD (r:=A2 s k) (.t U) underlying5 underlying3 (λ _=>by exact Eng.wrap_i64 (by omega))) U (Aj U U (Aa (Ac ?_))))))
    refine Am (Ad (Ae U U (Ab (.geq (.t U) .c) U (Ae U U (RL.v (.pos U U) (.move (.t U)) U (RL.v (.pos U U) (.leq (.g U (λ h=>h)) .c) U (Ab (.and (.t U) (.g U (λ h=>h))) U (Aj U U (Aa (Ac ?_))))))))))
    refine Af rfl ?_ ?_<;>intro hb3<;>try simp only[zb]at hb3
    ·refine CW.region (Ae U U (Ab (.mul (.t U) .c (λ _=>by first|omega|(unfold BU at*;omega))) U (Ae U U (Ab (.add (.t U) (.t U) (λ _=>by first|omega|(unfold BU at*;omega))) U (Ab (.sub (.t U) .c (λ _=>by first|omega|(unfold BU at*;omega))) U (Aj U U (Aa (Ac ?_))))))))
     refine CW.region (Ae U U (Ab (.add (.t U) .c (λ _=>by first|omega|(unfold BU at*;omega))) U (Aj U U ?_)))
     refine Aa λ a hs=>Exists.intro ((((n*16)+(A2 s k))-48,k+1)) ⟨hs.BC [0,1,5,6],?_,?_⟩
     ·have hx:BU (A2 s k)=A2 s k-48:=by unfold BU;(repeat' split)<;>omega
      have hst:=TP (s:=s) (i:=i+2) (k:=k) (by omega) hk0 (by omega) hok (by rw[hx];omega)
      exact⟨rfl,by omega,by omega,hst.1,by rw[hst.2,hx,<-hn];omega⟩
     ·show Int.toNat _<Int.toNat _;omega
    ·refine Ad (Ae U U (Ab (.geq (.t U) .c) U (Ae U U (RL.v (.pos U U) (.move (.t U)) U (RL.v (.pos U U) (.leq (.g U (λ h=>h)) .c) U (Ab (.and (.t U) (.g U (λ h=>h))) U (Aj U U (Aa (Ac ?_)))))))))
     refine Af rfl ?_ ?_<;>intro hb4<;>try simp only[zb]at hb4
     ·refine CW.region (Ae U U (Ab (.mul (.t U) .c (λ _=>by first|omega|(unfold BU at*;omega))) U (Ae U U (Ab (.add (.t U) (.t U) (λ _=>by first|omega|(unfold BU at*;omega))) U (Ab (.sub (.t U) .c (λ _=>by first|omega|(unfold BU at*;omega))) U (Ab (.add (.t U) .c (λ _=>by first|omega|(unfold BU at*;omega))) U (Aj U U (Aa (Ac ?_)))))))))
      refine CW.region (Ae U U (Ab (.add (.t U) .c (λ _=>by first|omega|(unfold BU at*;omega))) U (Aj U U ?_)))
      refine Aa λ a hs=>Exists.intro (((((n*16)+(A2 s k))-97)+10,k+1)) ⟨hs.BC [0,1,5,6],?_,?_⟩
      ·have hx:BU (A2 s k)=A2 s k-87:=by unfold BU;(repeat' split)<;>omega
       have hst:=TP (s:=s) (i:=i+2) (k:=k) (by omega) hk0 (by omega) hok (by rw[hx];omega)
       exact⟨rfl,by omega,by omega,hst.1,by rw[hst.2,hx,<-hn];omega⟩
      ·show Int.toNat _<Int.toNat _;omega
     ·refine Ad (Ae U U (Ab (.geq (.t U) .c) U (Ae U U (RL.v (.pos U U) (.move (.t U)) U (RL.v (.pos U U) (.leq (.g U (λ h=>h)) .c) U (Ab (.and (.t U) (.g U (λ h=>h))) U (Aj U U (Aa (Ac ?_)))))))))
      refine Af rfl ?_ ?_<;>intro hb5<;>try simp only[zb]at hb5
      ·refine CW.region (Ae U U (Ab (.mul (.t U) .c (λ _=>by first|omega|(unfold BU at*;omega))) U (Ae U U (Ab (.add (.t U) (.t U) (λ _=>by first|omega|(unfold BU at*;omega))) U (Ab (.sub (.t U) .c (λ _=>by first|omega|(unfold BU at*;omega))) U (Ab (.add (.t U) .c (λ _=>by first|omega|(unfold BU at*;omega))) U (Aj U U (Aa (Ac ?_)))))))))
       refine CW.region (Ae U U (Ab (.add (.t U) .c (λ _=>by first|omega|(unfold BU at*;omega))) U (Aj U U ?_)))
       refine Aa λ a hs=>Exists.intro (((((n*16)+(A2 s k))-65)+10,k+1)) ⟨hs.BC [0,1,5,6],?_,?_⟩
       ·have hx:BU (A2 s k)=A2 s k-55:=by unfold BU;(repeat' split)<;>omega
        have hst:=TP (s:=s) (i:=i+2) (k:=k) (by omega) hk0 (by omega) hok (by rw[hx];omega)
        exact⟨rfl,by omega,by omega,hst.1,by rw[hst.2,hx,<-hn];omega⟩
       ·show Int.toNat _<Int.toNat _;omega
      ·refine Ad (Ab (.assign .c) U (Aa (Ac (Ah (hE.r1 U U ?_)))))
       have hx:BU (A2 s k)<0:=by unfold BU;(repeat' split)<;>omega
       exact⟨by rw[WO h0 hn1.1 hn1.2.1 hn1.2.2,bC (s:=s) (i:=i+2) (k:=k) (j:=i+6) (by omega) hk0 (by omega) hn1.1 hx];rfl,rfl⟩
   ·refine CW.exit (CW.at [Y 5 (i64 n)] U ?_)
    refine Ad (Ae U U (Aj U U (Aa (Ac (Ah (hE.r1 U U ?_))))))
    have hk:k=i+6:=by omega
    subst hk
    exact⟨by rw[WO h0 hn1.1 hn1.2.1 hn1.2.2,if_pos hok,hn],rfl⟩
theorem AQ8(s:A1)(i:Int)(w:World)(h0:0<=i)(h1:i<len s)(hb:len s<=1099511627776):
  Calls prog 253 [(str s),(i64 i)].toArray w λ e w'=>e= .returned (.tuple #[(str ((HH (AW (A3 s i))).1)),(i64 ((HH (AW (A3 s i))).2))])/\Ext w w':=by
 refine CW.BH func253 U ntmps253 (Nat.le_of_ble_eq_true U) λ Q hE=>?_
 have:=A4 s
 have hl:=CO s i h0 (by omega)
 have hb1':=OB s i 1 h0 (by omega)
 have hu:=OA (A3 s i)
 have hu2:=OA (A3 s (i+6))
 have hff:=IF s i 6 h0 (by omega)
 have h8:len ([34,92,47,98,102,110,114,116]:A1)=8:=rfl
 have h82:len ([34,92,47,8,12,10,13,9]:A1)=8:=rfl
 have hS:St w nM w nM []:=Ak ⟨λ _ _ _ h=>by cases h⟩
 refine An [0,1] (L':=[Y 0 (str s),Y 1 (i64 i)]) ?_ U
 refine Ad (Ab (.assign .c) U (Ab (.assign .c) U (Aa (Ac (Ag ?_)))))
 refine Ad (Ae U U (Ab (.add (.t U) .c (λ _=>by omega)) U (Ae U U (Ab (.BR (.t U) underlying9) U (Ab (.geq (.t U) (.t U)) U (Aa (Ac ?_)))))))
 refine Af rfl ?_ ?_<;>intro hb1<;>try simp only[zb]at hb1
 ·refine Ad (Ab (.assign .c) U (Ab (.assign .c) U (Aa (Ac (Ah (hE.r2 U U U ?_))))))
  clear hE
  have hE:AW (A3 s i)=(0,0):=by
   unfold AW
   try rw[hff]
   rw[if_pos (by first|assumption|omega|(simp_all;done)|grind)]
   try (first|rfl|(congr 1;omega))
  have hq:HH (AW (A3 s i))=([],0):=by rw[hE];rfl
  rw[hq];exact⟨rfl,hS.low⟩
 ·refine Ai (Ac (Ad (Ab (.assign .c) U (Aa (Ac ?_)))))
  refine Ad (Ab (.assign .c) U (Aa (Ac (Ag ?_))))
  refine Ad (Ab (.assign .c) U (Aa (Ac (Am ?_))))
  refine CW.loop (σ:=Int) (λ k=>[Y 0 (str s),Y 1 (i64 i),Y 6 (str [34,92,47,98,102,110,114,116]),Y 7 (str [34,92,47,8,12,10,13,9]),Y 8 (i64 k)]) (λ k wl=>St w nM wl nM []/\0<=k/\k<=8/\RZ (A2 s (i+1)) k) (λ k=>(8-k).toNat) 0 [0,1,6,7,8] U ?_ ?_
  ·refine⟨hS,?_⟩;exact⟨by omega,by omega,λ j h2 h3=>by omega⟩
  ·rintro k wl ⟨hS1,hk0,hk1,hN⟩
   refine Ag (Ad (Ae U U (Ae U U (Ab (.BR (.t U) underlying9) U (Ab (.lss (.t U) (.t U)) U (Aa (Ac ?_)))))))
   refine Af rfl ?_ ?_<;>intro hb2<;>try simp only[zb]at hb2
   ·refine Ai (Ac (Ag (Am (Ag ?_))))
    refine CW.P5 hS1 N6 (by decide+kernel) ?_
    refine RQ.v .none (.move (.t U)) U ?_
    refine RQ.v .none (.move (.t U)) U ?_
    refine RQ.v .none (.add (.t U) .c (λ _=>by omega)) U ?_
    refine RQ.v .none (.C2 (.t U) (.t U) underlying9 (λ _=>by omega)) U ?_
    refine RQ.v .none (.move (.t U)) U ?_
    refine RQ.v .none (.move (.t U)) U ?_
    refine RQ.v .none (.C2 (.t U) (.t U) underlying9 (λ _=>by omega)) U ?_
    refine RQ.v .none (.eql (.t U) (.t U)) U ?_
    refine RQ.nil (λ a hs w2 hS3=>CW.at [Y 0 (str s),Y 1 (i64 i),Y 6 (str [34,92,47,98,102,110,114,116]),Y 7 (str [34,92,47,8,12,10,13,9]),Y 8 (i64 k),Y 29 (.bool ((A2 s (i+1))==(A2 [34,92,47,98,102,110,114,116] k)))] U ?_ a hs)
    refine Af rfl ?_ ?_<;>intro hb3<;>try simp only[zb]at hb3
    ·refine Ad (Ae U U (Ae U U (Ae U U (Ab (.add (.t U) .c (λ _=>by omega)) U (Ab (.KM (.t U) (.t U) (.t U) underlying9 (λ _=>by omega)) U (Aj U U (Ab (.assign .c) U (Aa (Ac ?_)))))))))
     refine Ah (hE.r2 U U U ?_)
     have he:=zB (c:=A2 s (i+1)) hk0 (by omega) hb3
     have hq:HH (AW (A3 s i))=(Eng.sub kE k (k+1),2):=by rw[zC (by omega) (by rw[hb1'];exact he.1),hb1',he.2]
     rw[hq];exact⟨rfl,hS3.low⟩
    ·refine Ai (Ac ?_)
     refine CW.region (Ae U U (Ab (.add (.t U) .c (λ _=>by omega)) U (Aj U U ?_)))
     refine Aa λ a hs=>Exists.intro (k+1) ⟨hs.BC [0,1,6,7,8],?_,?_⟩
     ·refine⟨hS3,?_⟩
      exact⟨by omega,by omega,hN.step hb3⟩
     ·show Int.toNat _<Int.toNat _;omega
   ·have hsh:HU (A2 (A3 s i) 1)=false:=by rw[hb1'];exact hN.bA (by omega)
    refine CW.exit (CW.at [Y 0 (str s),Y 1 (i64 i)] U ?_)
    refine Ad (Ae U U (Ae U U ?_))
    refine RL.DC .none call278 (.cons (.t U) (.cons (.t U) .nil)) (λ _=>(oV s i _ (by omega) (by omega) (by omega))) U ?_
    refine Aj U U ?_
    refine Aa (CW.at [Y 0 (str s),Y 1 (i64 i),Y 9 (i64 (B9 (A3 s i)))] U (Ag (Ad (Ae U U (Ab (.lss (.t U) .c) U (Ae U U (RL.v (.neg U U) (.move (.t U)) U (RL.v (.neg U U) (.geq (.g U (λ h=>h)) .c) U (RL.v (.neg U U) (.move (.g U (λ h=>h))) U ?_)))))))))
    refine RL.v (.DY U U) (.move (.t U)) U (RL.v (.DY U U) (.lss (.g U (λ h=>h)) .c) U (RL.v (.neg U U) (.and (.g U (λ h=>h)) (.g U (λ h=>h))) U (Ab (.or (.t U) (.g U (λ h=>h))) U (Aa (Ac ?_)))))
    refine Af rfl ?_ ?_<;>intro hb4<;>try simp only[zb]at hb4
    ·refine Ad (Ab (.assign .c) U (Ab (.assign .c) U (Aa (Ac (Ah (hE.r2 U U U ?_))))))
     clear hE
     have hE:AW (A3 s i)=(0,0):=by
      unfold AW
      try rw[hff]
      rw[if_neg (by first|assumption|omega|(simp_all;done)|grind),if_neg (by rw[hsh];simp),if_pos (by first|assumption|omega|(simp_all;done)|grind)]
      try (first|rfl|(congr 1;omega))
     have hq:HH (AW (A3 s i))=([],0):=by rw[hE];rfl
     rw[hq];exact⟨rfl,hS1.low⟩
    ·refine Ai (Ac (Ag (Ad (Ae U U (Ab (.lss (.t U) .c) U (Ae U U (RL.v (.neg U U) (.move (.t U)) U (RL.v (.neg U U) (.geq (.g U (λ h=>h)) .c) U (Ab (.or (.t U) (.g U (λ h=>h))) U (Aa (Ac ?_)))))))))))
     refine Af rfl ?_ ?_<;>intro hb5<;>try simp only[zb]at hb5
     ·refine Ad (Ae U U ?_)
      refine RL.D6 hS1 .none call279 (.cons (.t U) .nil) (λ _=>(oS (B9 (A3 s i)) _ (by omega) (by omega))) U (λ w4 hS5=>?_)
      refine Aj U U (Ab (.assign .c) U ?_)
      refine Aa (CW.at [Y 4 (str (toStr (Lib.encodeRuneZ (B9 (A3 s i))))),Y 5 (i64 6)] U (Ah (hE.r2 U U U ?_)))
      clear hE
      have hE:AW (A3 s i)=(B9 (A3 s i),6):=by
       unfold AW
       try rw[hff]
       rw[if_neg (by first|assumption|omega|(simp_all;done)|grind),if_neg (by rw[hsh];simp),if_neg (by first|assumption|omega|(simp_all;done)|grind),if_pos (by first|assumption|omega|(simp_all;done)|grind)]
       try (first|rfl|(congr 1;omega))
      have hq:HH (AW (A3 s i))=(toStr (Lib.encodeRuneZ (B9 (A3 s i))),6):=by rw[hE];rfl
      rw[hq];exact⟨rfl,hS5.low⟩
     ·refine Ai (Ac (Ad (Ae U U (Ae U U (Ab (.add (.t U) .c (λ _=>by omega)) U ?_)))))
      refine RL.DC .none call278 (.cons (.t U) (.cons (.t U) .nil)) (λ _=>(oV s (i+6) _ (by omega) (by omega) (by omega))) U ?_
      refine Aj U U ?_
      refine Aa (CW.at [Y 9 (i64 (B9 (A3 s i))),Y 10 (i64 (B9 (A3 s (i+6))))] U (Ag (Ad (Ae U U (Ab (.lss (.t U) .c) U (Ae U U (RL.v (.neg U U) (.move (.t U)) U (RL.v (.neg U U) (.geq (.g U (λ h=>h)) .c) U (Ab (.or (.t U) (.g U (λ h=>h))) U (Aa (Ac ?_)))))))))))
      refine Af rfl ?_ ?_<;>intro hb6<;>try simp only[zb]at hb6
      ·refine Ad (Ab (.assign .c) U (Ab (.assign .c) U (Aa (Ac (Ah (hE.r2 U U U ?_))))))
       clear hE
       have hE:AW (A3 s i)=(0,0):=by
        unfold AW
        try rw[hff]
        rw[if_neg (by first|assumption|omega|(simp_all;done)|grind),if_neg (by rw[hsh];simp),if_neg (by first|assumption|omega|(simp_all;done)|grind),if_neg (by first|assumption|omega|(simp_all;done)|grind),if_pos (by first|assumption|omega|(simp_all;done)|grind)]
        try (first|rfl|(congr 1;omega))
       have hq:HH (AW (A3 s i))=([],0):=by rw[hE];rfl
       rw[hq];exact⟨rfl,hS1.low⟩
      ·refine Ai (Ac (Ad (Ae U U (Ab (.sub (.t U) .c (λ _=>by omega)) U (Ab (.mul .c (.t U) (λ _=>by omega)) U (Ab (.add .c (.t U) (λ _=>by omega)) U (Ae U U (Ab (.add (.t U) (.t U) (λ _=>by omega)) U (Ab (.sub (.t U) .c (λ _=>by omega)) U ?_)))))))))
       refine RL.D6 hS1 .none call279 (.cons (.t U) .nil) (λ _=>(oS (((65536+(1024*((B9 (A3 s i))-55296)))+(B9 (A3 s (i+6))))-56320) _ (by omega) (by omega))) U (λ w6 hS7=>?_)
       refine Aj U U (Ab (.assign .c) U ?_)
       refine Aa (CW.at [Y 4 (str (toStr (Lib.encodeRuneZ (((65536+(1024*((B9 (A3 s i))-55296)))+(B9 (A3 s (i+6))))-56320)))),Y 5 (i64 12)] U (Ah (hE.r2 U U U ?_)))
       clear hE
       have hE:AW (A3 s i)=(65536+1024*(B9 (A3 s i)-55296)+B9 (A3 s (i+6))-56320,12):=by
        unfold AW
        try rw[hff]
        rw[if_neg (by first|assumption|omega|(simp_all;done)|grind),if_neg (by rw[hsh];simp),if_neg (by first|assumption|omega|(simp_all;done)|grind),if_neg (by first|assumption|omega|(simp_all;done)|grind),if_neg (by first|assumption|omega|(simp_all;done)|grind)]
        try (first|rfl|(congr 1;omega))
       have hq:HH (AW (A3 s i))=(toStr (Lib.encodeRuneZ (((65536+(1024*((B9 (A3 s i))-55296)))+(B9 (A3 s (i+6))))-56320)),12):=by rw[hE];rfl
       rw[hq];exact⟨rfl,hS7.low⟩
theorem AQ9(s:A1)(i:Int)(w:World)(h0:0<=i)(h1:i<len s)(hb:len s<=1099511627776):
  Calls prog 222 [(str s),(i64 i)].toArray w λ e w'=>e= .returned (.tuple #[(str ((F4 s i).1)),(i64 ((F4 s i).2))])/\Ext w w':=by
 refine CW.BH func222 U ntmps222 (Nat.le_of_ble_eq_true U) λ Q hE=>?_
 have:=A4 s
 have hr:=LR s i
 have hr2:=rune_le s i h1
 have hS:St w nM w nM []:=Ak ⟨λ _ _ _ h=>by cases h⟩
 refine An [0,1] (L':=[Y 0 (str s),Y 1 (i64 i)]) ?_ U
 refine Ad (Ab (.assign .c) U (Ab (.assign .c) U (Aa (Ac (Ag ?_)))))
 refine Ad (Ae U U (Ae U U (Ab (.C2 (.t U) (.t U) underlying9 (λ _=>by omega)) U (Ab (.eql (.t U) .c) U (Aa (Ac ?_))))))
 refine Af rfl ?_ ?_<;>intro hb1<;>try simp only[zb]at hb1
 ·refine Ad (Ae U U (Ae U U ?_))
  refine RL.D6 hS .none call253 (.cons (.t U) (.cons (.t U) .nil)) (λ _=>(AQ8 s i _ (by omega) (by omega) (by omega))) U (λ w1 hS2=>?_)
  refine Ab (.ex (.t U) U) U (Ab (.ex (.t U) U) U (Aj U U (Aj U U ?_)))
  refine Aa (CW.at [Y 4 (str ((HH (AW (A3 s i))).1)),Y 5 (i64 ((HH (AW (A3 s i))).2))] U (Ah (hE.r2 U U U ?_)))
  have hq:F4 s i=HH (AW (A3 s i)):=by unfold F4;rw[if_pos hb1]
  rw[hq];exact⟨rfl,hS2.low⟩
 ·refine Ai (Ac (Ad (Ae U U (Ae U U ?_))))
  refine RL.DC .none call88 (.cons (.t U) (.cons (.t U) .nil)) (λ _=>(fY s i _ (by omega) (by omega) (by omega))) U ?_
  refine Aj U U ?_
  refine Aa (CW.at [Y 0 (str s),Y 1 (i64 i),Y 6 (i64 (rune s i))] U (Ad (Ae U U (Ae U U (Ae U U (Ae U U (Ab (.add (.t U) (.t U) (λ _=>by omega)) U (Ab (.KM (.t U) (.t U) (.t U) underlying9 (λ _=>by omega)) U (Ae U U (Aj U U (Aj U U (Aa (Ac ?_)))))))))))))
  refine Ah (hE.r2 U U U ?_)
  have hq:F4 s i=(Eng.sub s i (i+rune s i),rune s i):=by unfold F4;rw[if_neg hb1]
  rw[hq];exact⟨rfl,hS.low⟩
theorem AR0(s:A1)(w:World)(hb:len s<=1099511627776):
  Calls prog 172 [(str s)].toArray w λ e w'=>e= .returned (.tuple #[(str ((AH s).1)),(i64 ((AH s).2.1)),(i64 ((AH s).2.2))])/\Ext w w':=by
 refine CW.BH func172 U ntmps172 (Nat.le_of_ble_eq_true U) λ Q hE=>?_
 have:=A4 s
 have hl0:= @G0 _ s
 have hS:St w nM w nM []:=Ak ⟨λ _ _ _ h=>by cases h⟩
 refine An [0] (L':=[Y 0 (str s)]) ?_ U
 refine Ad (Ab (.assign .c) U (Ab (.assign .c) U (Ab (.assign .c) U (Aa (Ac (Ag ?_))))))
 refine Ad (Ae U U (Ab (.O1 (.t U) .c) U (Ae U U (RL.v (.neg U U) (.move (.t U)) U (RL.v (.neg U U) (.C2 (.g U (λ h=>h)) .c underlying9 (λ hW=>by simp only[zb]at hW;first|omega|(have:=hl0 (by simpa using hW);omega))) U (RL.v (.neg U U) (.neq (.g U (λ h=>h)) .c) U (Ab (.or (.t U) (.g U (λ h=>h))) U (Aa (Ac ?_)))))))))
 refine Af rfl ?_ ?_<;>intro hb1<;>try simp only[zb]at hb1
 ·refine Ad (Ab (.assign .c) U (Ab (.assign .c) U (Ab (.assign .c) U (Aa (Ac (Ah (hE.r3 U U U U ?_)))))))
  have hq:AH s=([],0,1):=by unfold AH;rw[if_neg (by rw[MM];rintro⟨h1,h2⟩;rcases hb1 with h|h;exact h1 h;exact h h2)]
  rw[hq];exact⟨rfl,hS.low⟩
 ·refine Ai (Ac (Ad (Ab (.assign .c) U (Aa (Ac ?_)))))
  refine Ad (Ab (.assign .c) U (Aa (Ac (Ag ?_))))
  refine Am ?_
  refine CW.loop (σ:=Nat×Int×A1) (λ(f,i,o)=>[Y 0 (str s),Y 5 (str o),Y 6 (i64 i)]) (λ(f,i,o) wl=>St w nM wl nM []/\1<=i/\i<=len s/\ML f s i o/\(len s-i).toNat<=f/\len o<=4*i) (λ(f,i,o)=>(len s-i).toNat) ((s.length,1,[])) [0,5,6] U ?_ ?_
  ·refine⟨hS,?_⟩;exact⟨Int.le_refl _,by have:=hl0 (by simp_all);omega,⟨[],rfl,by unfold AH;rw[if_pos (MM.2 (by simp_all))]⟩,by unfold len;omega,by decide⟩
  ·rintro⟨f,i,o⟩ wl ⟨hS1,h0,h1,hU,hf,hlen⟩
   have htb:=λ h=>zA (s:=s) (i:=i) (by omega) h
   have hlo:=A4 o
   have hlt2:=A4 (F4 s i).1
   refine Ag (Ad (Ae U U (Ae U U (Ab (.BR (.t U) underlying9) U (Ab (.lss (.t U) (.t U)) U (Aa (Ac ?_)))))))
   refine Af rfl ?_ ?_<;>intro hb2<;>try simp only[zb]at hb2
   ·refine Ai (Ac (Am (Ag (Ad ?_))))
    refine Ae U U (Ae U U (Ab (.C2 (.t U) (.t U) underlying9 (λ _=>by first|omega|(have:=hl0 (by simpa using hW);omega))) U (Ab (.eql (.t U) .c) U (Aa (Ac ?_)))))
    refine Af rfl ?_ ?_<;>intro hb3<;>try simp only[zb]at hb3
    ·refine Ad (Ae U U (Ae U U (Ab (.add (.t U) .c (λ _=>by first|omega|(have:=hl0 (by simpa using hW);omega))) U (Aj U U (Aj U U (Ab (.assign .c) U (Aa (Ac (Ah (hE.r3 U U U U ?_))))))))))
     rw[hU.quote hf (by omega) hb2 hb3];exact⟨rfl,hS1.low⟩
    ·refine Ai (Ac (Ad (Ae U U (Ae U U ?_))))
     refine RL.D6 hS1 .none call222 (.cons (.t U) (.cons (.t U) .nil)) (λ _=>(AQ9 s i _ (by omega) (by omega) (by omega))) U (λ w2 hS3=>?_)
     refine Ae U U (Ab (.ex (.t U) U) U (Ab (.ex (.t U) U) U (Aj U U (Aj U U ?_))))
     refine Aa (CW.at [Y 0 (str s),Y 5 (str o),Y 6 (i64 i),Y 7 (str ((F4 s i).1)),Y 8 (i64 ((F4 s i).2))] U (Ag (Ad (Ae U U (Ab (.eql (.t U) .c) U (Ae U U (RL.v (.neg U U) (.move (.t U)) U (RL.v (.neg U U) (.move (.t U)) U (RL.v (.neg U U) (.C2 (.g U (λ h=>h)) (.g U (λ h=>h)) underlying9 (λ hW=>by simp only[zb]at hW;first|omega|(have:=hl0 (by simpa using hW);omega))) U ?_)))))))))
     refine RL.v (.neg U U) (.lss (.g U (λ h=>h)) .c) U (Ab (.or (.t U) (.g U (λ h=>h))) U (Aa (Ac ?_)))
     refine Af rfl ?_ ?_<;>intro hb4<;>try simp only[zb]at hb4
     ·refine Ad (Ae U U (Ab (.assign .c) U (Aj U U (Ab (.assign .c) U (Aa (Ac (Ah (hE.r3 U U U U ?_))))))))
      clear hE
      rw[hU.bad hf (by omega) hb2 hb3 (by simp_all)];exact⟨rfl,hS3.low⟩
     ·refine Ai (Ac (Ad (Ae U U (Ae U U (Ab (.E8 (.t U) (.t U) (λ _=>by first|omega|(have:=hl0 (by simpa using hW);omega))) U (Aj U U (Aa (Ac ?_))))))))
      refine CW.region (Ae U U (Ae U U (Ab (.add (.t U) (.t U) (λ _=>by first|omega|(have:=hl0 (by simpa using hW);omega))) U (Aj U U ?_))))
      refine Aa λ a hs=>Exists.intro ((f-1,i+(F4 s i).2,o++(F4 s i).1)) ⟨hs.BC [0,5,6],?_,?_⟩
      ·refine⟨hS3,?_⟩
       have hst:=hU.step hf (by omega) hb2 hb3 (by simp_all)
       exact⟨by omega,by omega,hst,by omega,by rw[A5];omega⟩
      ·show Int.toNat _<Int.toNat _;omega
   ·refine CW.exit (CW.at [Y 0 (str s)] U ?_)
    refine Ad (Ae U U (Ab (.BR (.t U) underlying9) U (Ab (.assign .c) U (Aj U U (Ab (.assign .c) U (Aa (Ac (Ah (hE.r3 U U U U ?_)))))))))
    rw[hU.bA hb2];exact⟨rfl,hS1.low⟩
theorem NQ{P:Program}{f:FuncId}{args:Array Value}{w:World}{u:Value}(h:Calls P f args w λ e w'=>e= .returned u/\w'=w):Calls P f args w λ e w'=>e= .returned u/\Ext w w':=h.mono λ e w' ⟨h1,h2⟩=>⟨h1,by rw[h2];exact .refl _⟩
theorem oW{p:UInt8->Bool}: ∀ {a r:A1},(∀b∈a,p b=true)->(a++r).takeWhile p=a++r.takeWhile p
 |[],r,_=>rfl
 |x::a,r,h=>by rw[List.cons_append,List.takeWhile_cons,if_pos (h x List.mem_cons_self),oW (λ b hb=>h b (List.mem_cons_of_mem _ hb))];rfl
theorem AR1{s:A1}{j i:Int}(h0:0<=j)(h1:j<=i)(h2:i<=len s)(h7:i-j<=7)(ha:CH (Eng.sub s j i))(hs:i-j=7\/len s<=i\/BG (A2 s i)=false):EC s j=Eng.sub s j i:=by
 have hl:=FB (s:=s) h0 h1 h2
 unfold EC
 rw[PS s j i h0 h1,oW ha]
 rcases hs with hs|hs|hs
 ·rw[List.take_append_of_le_length (by unfold len at hl;omega),List.take_of_length_le (by unfold len at hl;omega)]
 ·rw[O6 s i hs,List.takeWhile_nil,List.append_nil,List.take_of_length_le (by unfold len at hl;omega)]
 ·by_cases hlt:i<len s
  ·obtain⟨b,e1,e2⟩:=J3 s i (by omega) hlt
   rw[e1,List.takeWhile_cons,if_neg (by unfold C5;rw[<-e2,hs];decide),List.append_nil,List.take_of_length_le (by unfold len at hl;omega)]
  ·rw[O6 s i (by omega),List.takeWhile_nil,List.append_nil,List.take_of_length_le (by unfold len at hl;omega)]
theorem oX{t:A1}(h:CH t)(hl:len t<=6):0<=BA t/\BA t<1000000:=by
 have:=z6 h hl (len t)
 rwa [JW t _ (Int.le_refl _)]at this
theorem AR2{t:A1}(h:CH t)(hl:len t<=7):0<=BA t/\BA t<10000000:=by
 induction t using XX with
 |h0=>decide
 |hs a c _=>
  rw[A5,show len [c]=1 from rfl]at hl
  have:=oX (t:=a) (λ b hb=>h b (by simp[hb])) (by omega)
  have hc:=h c (by simp)
  unfold C5 BG at hc
  simp only[zb]at hc
  rw[Q4];omega
theorem AR3(s:A1)(j:Int)(w:World)(h0:0<=j)(h1:j<=len s)(hb:len s<=1099511627776):
  Calls prog 173 [str s,i64 j].toArray w λ e w'=>e= .returned (.tuple #[i64 (HK s j).1,i64 (HK s j).2])/\Ext w w':=by
 refine AU AP func173 U ntmps173 [] [] [.v (str s),I j] U (G7 w) AA (λ B hB=>?_) U
 refine CD (σ:=Int) (λ i=>⟨[],[],[Z 0 (.v (str s)),Z 1 (I i),Z 6 (I (BA (Eng.sub s j i))),Z 7 (I j)]⟩) (λ i=>j<=i/\i<=len s/\i-j<=7/\CH (Eng.sub s j i)) (λ i=>(len s-i).toNat) j rfl (A0 rfl) U (by rw[show Eng.sub s j j=[]from(RY h0 (Int.le_refl _) h1).2 rfl];rfl) ⟨Int.le_refl _,h1,by omega,by rw[show Eng.sub s j j=[]from(RY h0 (Int.le_refl _) h1).2 rfl];intro b hb;cases hb⟩ ?_
 rintro i ⟨hi0,hi1,hi7,hia⟩
 have hsl:=FB (s:=s) h0 hi0 hi1
 refine A7 U (A0 U) (by simp only[zb]<;>omega) (λ hb1=>?_) (λ hb1=>?_)<;>simp only[zb]at hb1
 ·have h6:=oX hia (by omega)
  obtain⟨b,e1,e2⟩:=kF (s:=s) h0 hi0 (by omega:i<len s)
  refine C7 (i+1) U (A0 U) (by omega) ?_ ⟨by omega,by omega,by omega,?_⟩ (by show Int.toNat _<Int.toNat _;omega)
  ·rw[e1,Q4,e2];rfl
  ·rw[e1];exact hia.app λ x hx=>by rw[List.mem_singleton.1 hx];unfold C5 BG;rw[e2];simp only[zb];omega
 ·have hst:i-j=7\/len s<=i\/BG (A2 s i)=false:=by
   by_cases h7:i-j=7
   ·exact .inl h7
   ·by_cases hl:len s<=i
    ·exact .inr (.inl hl)
    ·refine .inr (.inr ?_)
     rw[<-Bool.not_eq_true]
     unfold BG
     simp only[zb]
     omega
  have hg:=AR1 h0 hi0 hi1 hi7 hia hst
  have h7:=AR2 hia (by omega)
  have hne:(EC s j=[])↔i=j:=by rw[hg];exact RY h0 hi0 hi1
  refine A7 U (A0 U) (by simp only[zb]<;>omega) (λ hb2=>?_) (λ hb2=>?_)<;>simp only[zb]at hb2
  ·have hc:EC s j=[]\/(A2 s j=48/\1<len (EC s j))\/1000000<BA (EC s j):=by
    rw[hne,hg];omega
   refine A9 hB U U (A0 U) U U (A0 U) λ w M hX=>⟨?_,hX.st.low⟩
   unfold HK;rw[if_pos hc];rfl
  ·have hc: ¬(EC s j=[]\/(A2 s j=48/\1<len (EC s j))\/1000000<BA (EC s j)):=by
    rw[hne,hg];omega
   refine A9 hB U U (A0 U) U U (A0 U) λ w M hX=>⟨?_,hX.st.low⟩
   unfold HK;rw[if_neg hc,hg,hsl,show j+(i-j)=i by omega];rfl
end Go.Proofs.YtmjpjbmeamnfpaaGreatDoor
namespace Go.Eng
def I5:Sp:=⟨false,[],0⟩
def FH(s:A1):Sp×Int:=
 if Lib.hasPrefix s [46]=false then(I5,0)
 else if 0<CE (A3 s 1) 0 then(⟨false,Eng.sub s 1 (CE (A3 s 1) 0+1),0⟩,CE (A3 s 1) 0+1)
 else if(AH (A3 s 1)).2.2≠0\/OD (AH (A3 s 1)).1=true\/AE (AH (A3 s 1)).1≠Eng.sub s 1 (1+(AH (A3 s 1)).2.1)then(I5,0)
 else(⟨false,(AH (A3 s 1)).1,0⟩,(AH (A3 s 1)).2.1+1)
def F6(s:A1):Sp×Int:=
 if Lib.hasPrefix s [91]=false\/Lib.indexByte s 93<2\/8<Lib.indexByte s 93 then(I5,0)
 else match Lib.atoi (Eng.sub s 1 (Lib.indexByte s 93))with
  |none=>(I5,0)
  |some n=>if 1000000<n\/Lib.itoa n≠Eng.sub s 1 (Lib.indexByte s 93)\/n<0 then(I5,0)else(⟨true,[],n⟩,Lib.indexByte s 93+1)
def I6(s:A1)(i:Int):Int:=if i=0/\Lib.hasPrefix s [46]=true then 1 else 0
def F7(s:A1)(i:Int):Sp×Int:=
 if(FH (A3 s i)).2≠0 then FH (A3 s i)
 else if 0<i\/0<I6 s i then
  if(F6 (A3 s (i+I6 s i))).2=0 then(I5,0)else((F6 (A3 s (i+I6 s i))).1,(F6 (A3 s (i+I6 s i))).2+I6 s i)
 else(I5,0)
def HL:Nat->A1->List Sp->Int->List Sp×Int
 |0,_,p,i=>(p,i)
 |f+1,s,p,i=>if i<len s then if(F7 s i).2=0 then(p,i)else HL f s (p++[(F7 s i).1]) (i+(F7 s i).2)else(p,i)
def H4(s:A1):List Sp×Int×Int:=
 if s=[46]then([],0,0)
 else if(HL 20 s [] 0).2<len s\/(HL 20 s [] 0).1=[]then([],(HL 20 s [] 0).2,1)else((HL 20 s [] 0).1,0,0)
def GU(s:A1):List Sp×Bool:=((H4 s).1,decide ((H4 s).2.2=0)&& !((H4 s).1.any λ x=>x.part))
theorem XY{s:A1}{c:UInt8}(h:Lib.hasPrefix s [c]=true):1<=len s:=VK h
theorem oY(s:A1)(c:UInt8):Lib.indexByte s c<len s:=by
 induction s with
 |nil=>show(-1:Int)<0;decide
 |cons a s ih=>
  unfold Lib.indexByte
  have:=A4 s
  rw[A6]
  split
  ·omega
  ·split<;>omega
theorem oZ(s:A1):0<=(FH s).2/\(FH s).2<=len s/\len (FH s).1.name<=4*len s/\(FH s).1.part=false/\(FH s).1.n=0:=by
 have hl:=A4 s
 unfold FH
 split
 ·exact⟨by omega,hl,by show(0:Int)<=_;omega,rfl,rfl⟩
 ·rename_i hp
  have h1:=XY (by simpa using hp)
  have hfl:len (A3 s 1)=len s-1:=CO _ _ (by omega) h1
  have hw:=LY (s:=A3 s 1) (i:=0) (by omega) (by omega)
  have hu:=N8 (A3 s 1)
  have hul:=UA (A3 s 1)
  split
  ·refine⟨by omega,by omega,?_,rfl,rfl⟩
   show len (Eng.sub s 1 _)<=_
   have:len (Eng.sub s 1 (CE (A3 s 1) 0+1))<=len s:=by unfold Eng.sub len;rw[List.length_take,List.length_drop];unfold len at*;omega
   omega
  ·split
   ·exact⟨by omega,hl,by show(0:Int)<=_;omega,rfl,rfl⟩
   ·exact⟨by omega,by omega,by show len (AH (A3 s 1)).1<=_;omega,rfl,rfl⟩
theorem p8(s:A1):0<=(F6 s).2/\(F6 s).2<=len s/\len (F6 s).1.name<=0/\((F6 s).1.part=true->0<=(F6 s).1.n/\(F6 s).1.n<=1000000):=by
 have hl:=A4 s
 have hi:=oY s 93
 have hn:len I5.name<=0:=by decide
 unfold F6
 split
 ·exact⟨by omega,hl,hn,λ h=>by cases h⟩
 ·rename_i hc
  split
  ·exact⟨by omega,hl,hn,λ h=>by cases h⟩
  ·split
   ·exact⟨by omega,hl,hn,λ h=>by cases h⟩
   ·rename_i n _ hd
    exact⟨by omega,by omega,hn,λ _=>⟨show(0:Int)<=n by omega,show n<=(1000000:Int) by omega⟩⟩
end Go.Eng
namespace Go.Proofs.YtmjpjbmeamnfpaaGreatDoor
open Go.Proofs.Tryz
open Go.Eng
theorem AR4(s:A1)(w:World)(hg:Gl w)(hb:len s<=200000000000):
    Calls prog 302 [str s].toArray w λ e w'=>e= .returned (.tuple #[.agg (FH s).1.cells.toArray,i64 (FH s).2])/\Ext w w':=by
 have hl0:=A4 s
 refine AU AP func302 U ntmps302 [] [] [.v (str s)] U (G7 w) AA (λ B hB=>?_) U
 refine CU 2 U (A0 U) U zeroValue68 U λ b2=>?_
 refine AY U (A0 U) U call77 U U (A0 U) (λ _ w M hX=>NQ (P6 s [46] w)) U ?_
 refine A7 U (A0 U) U (λ hb1=>?_) (λ hb1=>?_)<;>simp only[zb]at hb1
 ·exact A9 hB U U (A0 U) U U (A0 U) λ w M hX=>⟨by unfold FH;rw[if_pos hb1];rfl,hX.st.low⟩
 have h1:=XY hb1
 have hfl:len (A3 s 1)=len s-1:=CO _ _ (by omega) h1
 have hw:=LY (s:=A3 s 1) (i:=0) (by omega) (by omega)
 have hu:=N8 (A3 s 1)
 have hul:=UA (A3 s 1)
 refine AY U (A0 U) (by simp only[zb]<;>omega) call280 U U (A0 U) (λ _ w M hX=>lK (A3 s 1) w (by omega)) U ?_
 refine A7 U (A0 U) U (λ hb2=>?_) (λ hb2=>?_)<;>simp only[zb]at hb2
 ·exact A9 hB U U (A0 U) (by simp only[zb]<;>omega) U (A0 U) λ w M hX=>⟨by unfold FH;rw[if_neg (by rw[hb1];decide),if_pos hb2];rfl,hX.st.low⟩
 refine AY U (A0 U) (by simp only[zb]<;>omega) call78 U U (A0 U) (λ _ w M hX=>WX (A3 s 1) w (hg.low hX.st.low) (by omega)) U ?_
 refine J8 U (A0 U) U EM (by decide+kernel) ?_
 refine K7 U (A0 U) (by simp only[zb]<;>omega) call254 U U (A0 U) (λ _ w M hX=>lL (AH (A3 s 1)).1 w (by omega)) U ?_
 refine K7 U (A0 U) (by simp only[zb]<;>omega) call255 U U (A0 U) (λ _ w M hX=>lB (AH (A3 s 1)).1 w (hg.low hX.st.low) (by omega)) U ?_
 refine JA U (A0 U) (by simp only[zb]<;>omega) ?_
 refine A7 U (A0 U) U (λ hb3=>?_) (λ hb3=>?_)<;>simp only[zb]at hb3
 ·exact A9 hB U U (A0 U) U U (A0 U) λ w M hX=>⟨by unfold FH;rw[if_neg (by rw[hb1];decide),if_neg (by omega),if_pos (by simpa only[or_assoc]using hb3)];rfl,hX.st.low⟩
 ·have hno: ¬((AH (A3 s 1)).2.2≠0\/OD (AH (A3 s 1)).1=true\/AE (AH (A3 s 1)).1≠Eng.sub s 1 (1+(AH (A3 s 1)).2.1)):=by
   rintro(q|q|q)
   · exact q hb3.1.1
   · rw[hb3.1.2]at q;cases q
   · exact q hb3.2
  exact A9 hB U U (A0 U) (by simp only[zb]<;>omega) U (A0 U) λ w M hX=>⟨by unfold FH;rw[if_neg (by rw[hb1];decide),if_neg (by omega),if_neg hno];rfl,hX.st.low⟩
theorem AR5{w0 wv:World}{M0 M:Mem}{Rs:List HO}(s:A1)(hS:St w0 M0 wv M Rs)(hg:Gl w0)(hb:len s<=18):
   Calls prog 120 [str s].toArray wv (DT w0 M0 M Rs (λ u:Int×Value=>.tuple #[i64 u.1,u.2]) (λ u=>(∃n,Lib.atoi s=some n/\u=(n,.nilIface)/\ -9223372036854775808<=n/\n<=9223372036854775807)\/(Lib.atoi s=none/\u.1=0/\ ∃t p,u.2= .iface t p)) (λ _=>[]) λ _=>[]):=by
 have hgw:=hg.low hS.low
 have hsl:s.length<=18:=by unfold len at hb;omega
 have hall:=Lib.atoiAll_short s hsl
 cases ha:Lib.atoi s with
 |some n=>
  rw[ha]at hall
  have hbd:=Lib.atoiAll_bounds hall
  exact(Z2 s n wv (by omega) hall).mono λ e w' ⟨he,hx⟩=>⟨(n,.nilIface),M,he,.inl ⟨n,rfl,rfl,hbd⟩,Mem.le.refl _,hS.ext hx,AA⟩
 |none=>
  rw[ha]at hall
  obtain⟨ev,h1,h2⟩:=hgw.err
  exact(Any.strconv_Atoi_syntax Tryz.eN ⟨⟨s⟩⟩ (by show s.length<=_;omega) hall ev wv h1 h2).mono λ e w' ⟨N,he,_,_,hx⟩=>⟨(0,_),M,he,.inr ⟨rfl,rfl,_,_,rfl⟩,Mem.le.refl _,hS.ext hx,AA⟩
theorem AR6(s:A1)(w:World):Calls prog 119 [str s,.int .u8 93].toArray w λ e w'=>e= .returned (i64 (Lib.indexByte s 93))/\Ext w w':=NQ (V8 s 93 w)
theorem AR7(s:A1)(w:World)(hg:Gl w)(hb:len s<=200000000000):
    Calls prog 303 [str s].toArray w λ e w'=>e= .returned (.tuple #[.agg (F6 s).1.cells.toArray,i64 (F6 s).2])/\Ext w w':=by
 have hl0:=A4 s
 have hix:=oY s 93
 have hix0:=Lib.indexByte_ge s 93
 refine AU AP func303 U ntmps303 [] [] [.v (str s)] U (G7 w) AA (λ B hB=>?_) U
 refine CU 2 U (A0 U) U zeroValue68 U λ b2=>?_
 refine AY U (A0 U) U call119 U U (A0 U) (λ _ w M hX=>AR6 s w) U ?_
 refine AY U (A0 U) U call77 U U (A0 U) (λ _ w M hX=>NQ (P6 s [91] w)) U ?_
 refine A7 U (A0 U) U (λ hb1=>?_) (λ hb1=>?_)<;>simp only[zb]at hb1
 ·exact A9 hB U U (A0 U) U U (A0 U) λ w M hX=>⟨by unfold F6;rw[if_pos (by simpa only[or_assoc]using hb1)];rfl,hX.st.low⟩
 have hno: ¬(Lib.hasPrefix s [91]=false\/Lib.indexByte s 93<2\/8<Lib.indexByte s 93):=by
  rintro(q|q|q)
  · rw[q]at hb1;cases hb1.1.1
  · omega
  · omega
 obtain⟨z,hz⟩: ∃z,z=Lib.indexByte s 93:=⟨_,rfl⟩
 have hsub:len (Eng.sub s 1 (Lib.indexByte s 93))<=18:=by
  unfold Eng.sub len;rw[List.length_take,List.length_drop];omega
 refine BQ [] (λ u:Int×Value=>.tu [I u.1,.v u.2]) [] (λ _=>[]) (Fg:=λ _=>[]) U (A0 U) (by simp only[zb]<;>omega) U call120 U U (A0 U) U (λ w M hS hF=>AR5 (Eng.sub s 1 (Lib.indexByte s 93)) hS hg hsub) (λ _=>rfl) (λ _=>rfl) λ u hu=>?_
 rcases u with⟨u1,u2⟩
 rcases hu with⟨n,hn,hu,hn0,hn1⟩|⟨hn,hu1,t,p,hu2⟩
 ·cases hu
  refine J8 U (A0 U) U EM (by decide+kernel) ?_
  refine lV (.v (.bool false)) U (A0 U) U U (λ w M hX=>PV.V3 (AN (v:=.v .nilIface) (E:=[]) U (A0 U)) (.inl U) underlying166) ?_
  refine K7 U (A0 U) (by simp only[zb]<;>omega) call245 U U (A0 U) (λ _ w M hX=>Z1 u1 w (hg.low hX.st.low) hn0 hn1) U ?_
  refine JA U (A0 U) (by simp only[zb]<;>omega) ?_
  have e:F6 s=if 1000000<u1\/Lib.itoa u1≠Eng.sub s 1 (Lib.indexByte s 93)\/u1<0 then(I5,0)else(⟨true,[],u1⟩,Lib.indexByte s 93+1):=by
   unfold F6;rw[if_neg hno,hn]
  refine A7 U (A0 U) (by simp only[zb]<;>omega) (λ hb2=>?_) (λ hb2=>?_)<;>simp only[zb]at hb2
  ·exact A9 hB U U (A0 U) U U (A0 U) λ w M hX=>⟨by rw[e,if_pos (by simpa[or_assoc]using hb2)];rfl,hX.st.low⟩
  ·have hn2: ¬(1000000<u1\/Lib.itoa u1≠Eng.sub s 1 (Lib.indexByte s 93)\/u1<0):=by
    rintro(q|q|q)
    · omega
    · exact q hb2.1.2
    · omega
   exact A9 hB U U (A0 U) (by simp only[zb]<;>omega) U (A0 U) λ w M hX=>⟨by rw[e,if_neg hn2];rfl,hX.st.low⟩
 ·cases hu1;cases hu2
  have e:F6 s=(I5,0):=by unfold F6;rw[if_neg hno,hn]
  refine J8 U (A0 U) U EM (by decide+kernel) ?_
  refine lV (.v (.bool true)) U (A0 U) U U (λ w M hX=>PV.V3 (AN (v:=.v (.iface t p)) (E:=[]) U (A0 U)) (.inr ⟨t,p,rfl⟩) underlying166) ?_
  refine K7 U (A0 U) (by simp only[zb]<;>omega) call245 U U (A0 U) (λ _ w M hX=>Z1 0 w (hg.low hX.st.low) (by omega) (by omega)) U ?_
  refine JA U (A0 U) (by simp only[zb]<;>omega) ?_
  refine A7 U (A0 U) (by simp only[zb]<;>omega) (λ hb2=>?_) (λ hb2=>?_)
  ·exact A9 hB U U (A0 U) U U (A0 U) λ w M hX=>⟨by rw[e];rfl,hX.st.low⟩
  ·cases hb2
theorem AR8(s:A1)(i:Int)(h0:0<=i)(h1:i<=len s):0<=(F7 s i).2/\i+(F7 s i).2<=len s/\len (F7 s i).1.name<=4*len s/\((F7 s i).1.part=true->0<=(F7 s i).1.n/\(F7 s i).1.n<=1000000):=by
 have hl:=A4 s
 have hf:=CO s i h0 h1
 have h2:=oZ (A3 s i)
 have hsp:len I5.name<=0:=by decide
 unfold F7
 split
 ·exact⟨h2.1,by omega,by omega,λ h=>by rw[h2.2.2.2.1]at h;cases h⟩
 ·split
  ·rename_i hd
   have hdq:0<=I6 s i/\i+I6 s i<=len s:=by
    unfold I6 at*
    split at hd
    ·rename_i hp;rw[if_pos hp];have:=XY hp.2;omega
    ·rename_i hp;rw[if_neg hp];omega
   have hf2:=CO s (i+I6 s i) (by omega) hdq.2
   have h3:=p8 (A3 s (i+I6 s i))
   split
   ·exact⟨by omega,by omega,show len I5.name<=_ by omega,λ h=>by cases h⟩
   ·exact⟨by omega,by omega,show len (F6 (A3 s (i+I6 s i))).1.name<=_ by omega,h3.2.2.2⟩
  ·exact⟨by omega,by omega,show len I5.name<=_ by omega,λ h=>by cases h⟩
theorem AR9{w0 wv:World}{M0 M:Mem}{Rs:List HO}(s:A1)(hS:St w0 M0 wv M Rs)(hg:Gl w0)(hb:len s<=200000000000):
    Calls prog 286 [str s].toArray wv (DT w0 M0 M Rs (λ u:Value=>.tuple #[u,i64 (H4 s).2.1,i64 (H4 s).2.2]) (λ _=>True) (λ u=>[(1,kn u 3 (H4 s).1 Sp.cells)]) λ _=>[]):=by
 have hl0:=A4 s
 refine AU (Hr:=Rs) AP func286 U ntmps286 [] [] [.v (str s)] U hS AA (λ B hB=>?_) U
 unfold H4 at hB
 refine A7 U (A0 U) U (λ hb1=>?_) (λ hb1=>?_)<;>simp only[zb]at hb1
 ·rw[if_pos hb1]at hB
  exact A9 hB U U (A0 U) U U (A0 U) λ w M' hX=>⟨.slice none 0 0,M',rfl,trivial,hX.le,hX.CQ [] U,CK ⟨Sl.nil M' 3,Sp.B4,trivial⟩ AA⟩
 rw[if_neg hb1]at hB
 refine AF4 (λ Q a w h=>wp_label h) U (A0 U) U ?_
 generalize hR:HL 20 s [] 0=R at hB
 refine TB 1 5 68 3 Sp.cells Sp.B4 U ?_
 refine lU (σ:=Int×Value×List Sp×Nat) 1 (λ s'=> ∃(i:Int) (u:Value) (xs:List Sp),0<=i/\i<=len s/\len xs<=20/\R=(xs,i)/\s'=⟨[(1,kn u 3 xs Sp.cells)],[(1,.ho (TX u xs))],[Z 0 (.v (str s)),Z 5 (.sl 1 u),Z 6 (I i)]⟩)
   (λ(i,u,xs,f)=>⟨[(1,kn u 3 xs Sp.cells)],[(1,.ho (TX u xs))],[Z 0 (.v (str s)),Z 5 (.sl 1 u),Z 6 (I i)]⟩)
   (λ(i,u,xs,f)=>0<=i/\i<=len s/\len xs+f=20/\HL f s xs i=R) (λ(i,u,xs,f)=>f) (0,.slice none 0 0,[],20) U (A0 U) U U U ⟨by omega,hl0,rfl,hR⟩ ?_ ?_
 ·rintro⟨i,u,xs,f⟩ ⟨hi0,hi1,hxf,hst⟩
  have hx0:=A4 xs
  refine A7 U (A0 U) U (λ hb2=>?_) (λ hb2=>?_)<;>simp only[zb]at hb2
  ·cases f with
   |zero=>exfalso;omega
   |succ f=>
   rw[HL,if_pos hb2.1]at hst
   have hf:=CO s i hi0 hi1
   have hfb:=oZ (A3 s i)
   have hsb:=AR8 s i hi0 hi1
   refine AY U (A0 U) (by simp only[zb]<;>omega) call302 U U (A0 U) (λ _ w M hX=>AR4 (A3 s i) w (hg.low hX.st.low) (by omega)) U ?_
   refine CU 7 U (A0 U) U zeroValue68 U λ b7=>?_
   refine ES 0 (λ s'=> ∃x:Sp,x=(F7 s i).1/\(F7 s i).2≠0/\s'=⟨[(1,kn u 3 xs Sp.cells)],[(7,.box b7 [.v (.bool x.part),.v (str x.name),I x.n] 68),(1,.ho (TX u xs))],[Z 0 (.v (str s)),Z 5 (.sl 1 u),Z 6 (I i),Z 7 (.bx 7 b7 0),Z 8 (I ((F7 s i).2))]⟩) U (A0 U) (by simp only[zb]<;>omega) U (λ hb3=>?_) (λ hb3=>?_) ?_
   ·simp only[zb]at hb3
    refine AY U (A0 U) (by simp only[zb]<;>omega) call77 U U (A0 U) (λ _ w M hX=>NQ (P6 s [46] w)) U ?_
    refine ES 0 (λ s'=> ∃dt:Int,dt=I6 s i/\s'=⟨[(1,kn u 3 xs Sp.cells)],[(7,.box b7 [.v (.bool (FH (A3 s i)).1.part),.v (str (FH (A3 s i)).1.name),I (FH (A3 s i)).1.n] 68),(1,.ho (TX u xs))],[Z 0 (.v (str s)),Z 5 (.sl 1 u),Z 6 (I i),Z 7 (.bx 7 b7 0),Z 8 (I ((FH (A3 s i)).2)),Z 9 (I dt)]⟩) U (A0 U) (by simp only[zb]<;>omega) U (λ hb4=>?_) (λ hb4=>?_) ?_
    ·exact B5 _ U (A0 U) U U ⟨1,by simp only[zb]at hb4;unfold I6;rw[if_pos hb4],rfl⟩
    ·exact B5 _ U (A0 U) U U ⟨0,(by
      simp only[zb]at hb4;unfold I6;rw[if_neg]
      rintro⟨q1,q2⟩
      rcases hb4 with h|h
      · exact h q1
      · rw[q2]at h;cases h),rfl⟩
    rintro s' ⟨dt,hdt,rfl⟩
    have hdq:0<=dt/\dt<=1/\i+dt<=len s:=by
     rw[hdt];unfold I6
     split
     · rename_i hp;have:=XY hp.2;omega
     · omega
    have hf2:=CO s (i+dt) (by omega) hdq.2.2
    have hpb:=p8 (A3 s (i+dt))
    have est:F7 s i=if 0<i\/0<dt then if(F6 (A3 s (i+dt))).2=0 then(I5,0)else((F6 (A3 s (i+dt))).1,(F6 (A3 s (i+dt))).2+dt)else(I5,0):=by
     unfold F7;rw[if_neg (λ q=>q hb3),<-hdt]
    refine A7 U (A0 U) (by simp only[zb]<;>omega) (λ hb4=>?_) (λ hb4=>?_)<;>simp only[zb]at hb4
    ·rw[if_pos hb4]at est
     refine AY U (A0 U) (by simp only[zb]<;>omega) call303 U U (A0 U) (λ _ w M hX=>AR7 (A3 s (i+dt)) w (hg.low hX.st.low) (by omega)) U ?_
     refine A7 U (A0 U) (by simp only[zb]<;>omega) (λ hb5=>?_) (λ hb5=>?_)<;>simp only[zb]at hb5
     ·rw[if_pos hb5]at est
      rw[est,if_pos U]at hst
      exact B5 _ U (A0 U) U U ⟨i,u,xs,hi0,hi1,by omega,hst.symm,rfl⟩
     ·rw[if_neg hb5]at est
      exact B5 _ U (A0 U) (by simp only[zb]<;>omega) (by rw[est];rfl) ⟨_,rfl,by rw[est];show(F6 (A3 s (i+dt))).2+dt≠0;omega,rfl⟩
    ·rw[if_neg (by omega)]at est
     refine A7 U (A0 U) (by simp only[zb]<;>omega) (λ hb5=>?_) (λ hb5=>?_)<;>simp only[zb]at hb5
     ·rw[est,if_pos U]at hst
      exact B5 _ U (A0 U) U U ⟨i,u,xs,hi0,hi1,by omega,hst.symm,rfl⟩
     ·exact absurd hb3 hb5
   ·simp only[zb]at hb3
    have est:F7 s i=FH (A3 s i):=by unfold F7;rw[if_pos hb3]
    exact B5 _ U (A0 U) U (by rw[est];rfl) ⟨_,rfl,by rw[est];exact hb3,rfl⟩
   rintro s' ⟨x,hx,hne,rfl⟩
   rw[if_neg hne,<-hx]at hst
   refine DS 6 [x] Sp.cells 3 68 Sp.B4 U (A0 U) U U (A0 U) (λ w=>by kernel_rfl) U λ v6=>?_
   refine ME 32 U (A0 U) U U (A0 U) U underlying70 type68 U U Sp.cells_one (by simp only[A6,len_nil];omega) λ v'=>?_
   exact C7 (i+(F7 s i).2,v',xs++[x],f) U (A0 U) (by simp only[zb]<;>omega) U ⟨by omega,by omega,by rw[A5];show len xs+1+_=20;omega,hst⟩ (by show f<f+1;omega)
  ·refine B5 _ U (A0 U) U U ⟨i,u,xs,hi0,hi1,by omega,?_,rfl⟩
   rw[<-hst]
   cases f with
   |zero=>rfl
   |succ f=>rw[HL,if_neg (by omega)]
 rintro s' ⟨i,u,xs,hi0,hi1,hx20,rfl,rfl⟩
 have hx0:=A4 xs
 refine A7 U (A0 U) U (λ hb2=>?_) (λ hb2=>?_)<;>simp only[zb]at hb2
 ·rw[if_pos (hb2.imp id λ h=>Decidable.byContradiction λ q=>by have:0<len xs:=G0 q;omega)]at hB
  exact A9 hB U U (A0 U) U U (A0 U) λ w M' hX=>⟨.slice none 0 0,M',rfl,trivial,hX.le,hX.CQ [] U,CK ⟨Sl.nil M' 3,Sp.B4,trivial⟩ AA⟩
 ·rw[if_neg (by
                 rintro(q|q);· omega
                 · dsimp only at q;rw[q]at hb2;exact hb2.2 U)]at hB
  exact A9 hB U U (A0 U) U U (A0 U) λ w M' hX=>⟨u,M',rfl,trivial,hX.le,hX.CQ [] U,CK (hX.f.get (k:=1) U) AA⟩
end Go.Proofs.YtmjpjbmeamnfpaaGreatDoor
