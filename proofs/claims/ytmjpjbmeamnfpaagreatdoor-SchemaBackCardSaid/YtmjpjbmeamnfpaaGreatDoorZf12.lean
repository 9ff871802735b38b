/- Lemmas for the card. -/
import Derived.Test.YtmjpjbmeamnfpaaGreatDoorZf11
set_option linter.unusedVariables false
set_option linter.unusedSimpArgs false
set_option maxRecDepth 100000
namespace Go.Proofs.YtmjpjbmeamnfpaaGreatDoor
open Go.Proofs.Tryz
open Go.Eng
theorem bT(c:Int)(w:World)(h0:0<=c)(h1:c<=255):
  Calls prog 262 [(.int .u8 c)].toArray w λ e w'=>e= .returned (.int .u8 (DV c))/\w'=w:=by
 refine CW.BH func262 U ntmps262 (Nat.le_of_ble_eq_true U) λ Q hE=>?_
 refine An [0] (L':=[Y 0 (.int .u8 c)]) ?_ U
 refine Ad (Ab (.assign .c) U (Aa (Ac (Ad ?_))))
 refine Ae U U (Ab (.bin (v:=.int .u8 (DV c)) (.t U) .c (λ hW w _=>by simp[go_sem,binOp];exact AA8 (by omega) (by omega))) U (Aj U U (Aa (Ac ?_))))
 refine Ah (hE.r1 U U ?_)
 exact⟨rfl,rfl⟩
set_option maxHeartbeats 1000000 in
theorem AD3(l:A1)(w:World)(hl:len l=4):
  Calls prog 236 [(str l),(i64 16),(i64 16)].toArray w λ e w'=> ∃v,e= .returned v/\ ∃x er,(er= .nilIface\/ ∃u p,er= .iface u p)/\QS er=ER l/\(QS er=false->er= .iface 248 (i64 2))/\(ER l=true->x=FC l)/\v= .tuple #[.int .u64 x,er]/\Ext w w':=by
 refine CW.BH func236 U ntmps236 (Nat.le_of_ble_eq_true U) λ Q hE=>?_
 have hil:len (ints l)=4:=by rw[IC];exact hl
 have hS:St w nM w nM []:=Ak ⟨λ _ _ _ h=>by cases h⟩
 refine An [0,1,2] (L':=[Y 0 (str l),Y 1 (i64 16),Y 2 (i64 16)]) ?_ U
 refine Ad (Ab (.assign .c) U (Ab (.assign .c) U (Aa (Ac (Ag ?_)))))
 refine Ad (Ae U U (Ab (.O1 (.t U) .c) U (Aa (Ac ?_))))
 refine Af rfl ?_ ?_<;>intro hb1<;>try simp only[zb]at hb1
 ·exfalso;rw[hb1]at hl;exact absurd hl (by decide)
 ·refine Ai (Ac (Ad (Ae U U (Ab (.eql (.t U) .c) U (Aj U U (Aa (Ac ?_)))))))
  refine Ad (Ae U U (Aj U U (Aa (Ac (Ag ?_)))))
  refine Am (Ad (Ae U U (Ab (.leq .c (.t U)) U (Ae U U (RL.v (.pos U U) (.move (.t U)) U (RL.v (.pos U U) (.leq (.g U (λ h=>h)) .c) U (Ab (.and (.t U) (.g U (λ h=>h))) U (Aj U U (Aa (Ac ?_))))))))))
  refine Af rfl (λ _=>?_) (λ h=>by cases h)
  refine Ai (Ac (Ag (Ad (Ae U U (Ab (.eql (.t U) .c) U (Aa (Ac ?_)))))))
  refine Af rfl (λ h=>by cases h) (λ _=>?_)
  refine Ad (Ae rfl rfl (Ab (.lss (.t rfl) .c) rfl (Ae rfl rfl (RL.v (.neg rfl rfl) (.move (.t rfl)) rfl (RL.v (.neg rfl rfl) (.gtr (.g rfl (λ h=>h)) .c) rfl (Ab (.or (.t rfl) (.g rfl (λ h=>h))) rfl (Aa (Ac (Af rfl (λ h=>by cases h) (λ _=>?_))))))))))
  refine Ai (Ac (Ad (Ab (.assign .c) U (Aa (Ac ?_)))))
  refine Ag (Ad (Ae U U (Aa (Ac ?_))))
  refine Am (Ad (Ab (.eql (.t U) .c) U (Aj U U (Aa (Ac ?_)))))
  refine Af rfl (λ h=>by cases h) (λ _=>?_)
  refine Ad (Ab (.eql (.t rfl) .c) rfl (Aj rfl rfl (Aa (Ac (Af rfl (λ _=>?_) (λ h=>by cases h))))))
  refine CW.region (Ab (.assign .c) U (Aa (Ac (Ad ?_))))
  refine Ae U U (Ab (.BD (r:=16) (.t U) underlying3 underlying192 (λ _=>by exact Eng.wrap_u64 (by omega))) U (Ab (.bin (v:=.int .u64 65536) .c (.t U) (λ _ w _=>by kernel_rfl)) U (Ab (.bin (v:=.int .u64 65535) (.t U) .c (λ _ w _=>by kernel_rfl)) U (Aj U U (Aa (Ac ?_))))))
  refine Ad (Ab (.assign .c) U (Aa (Ac (Ad ?_))))
  refine Ab (.assign .c) U (Aa (Ac ?_))
  refine Ag (Ad (Ae U U ?_))
  refine RL.bytes hS (.t U) underlying9 underlying110 underlying5 ((by omega)) U (λ v1 w2 M3 hS4 hle5 hsl6=>?_)
  refine Ab (.QM hsl6 (.t U) ⟨_,underlying110⟩) U (Ab (.move .c) U ?_)
  refine Aa (CW.at [Y 1 (i64 16),Y 8 (.bool false),Y 9 (str l),Y 10 (.int .u64 1152921504606846976),Y 11 (.int .u64 65535),Y 12 (.bool false),Y 13 (.int .u64 0),Y 99 v1,Y 100 (i64 (len (ints l))),Y 101 (i64 0)] U (Am ?_))
  refine CW.loop (σ:=Int×Int) (λ(k,n)=>[Y 1 (i64 16),Y 8 (.bool false),Y 9 (str l),Y 10 (.int .u64 1152921504606846976),Y 11 (.int .u64 65535),Y 12 (.bool false),Y 13 (.int .u64 n),Y 99 v1,Y 100 (i64 (len (ints l))),Y 101 (i64 k)]) (λ(k,n) wl=>St w nM wl M3 []/\Sl M3 1 (ints l).length v1 ((ints l).flatMap AQ)/\0<=k/\k<=4/\ER (Eng.sub l 0 k)=true/\n=FC (Eng.sub l 0 k)) (λ(k,n)=>(4-k).toNat) ((0,0)) [1,8,9,10,11,12,13,99,100,101] U ?_ ?_
  ·refine⟨hS4,hsl6,?_⟩;exact⟨by omega,by omega,rfl,rfl⟩
  ·rintro⟨k,n⟩ wl ⟨hS7,hsl6,hk0,hk1,hok,hn⟩
   refine Ad (Ab (.lss (.t U) (.t U)) U (Aa (Ac (Ag ?_))))
   refine Af rfl ?_ ?_<;>intro hb7<;>try simp only[zb]at hb7
   ·have hq:at' (ints l) k=A2 l k:=ints_at hk0 (by omega)
    have hby:=LQ l k
    have hlf:=AB0 (c:=at' (ints l) k) (by omega) (by omega)
    have hbd:=AB3 hl hk0 (by omega) hok
    refine Ai (Ac (Ag (Am (Ad ?_))))
    refine Ab (.UU hsl6 (.t U) (.t U) underlying110 sizeOf5 (λ _=>by omega)) U (Ab (.US (f:=AQ) (i:=k) (j:=0) (u:=(.int .u8 (at' (ints l) k))) hS7 AR hsl6 YV (.t U) isAgg5 (λ _=>by omega) U U) U (Aj U U (Aa (Ac ?_))))
    refine Ad (Ab (.assign .c) U (Aa (Ac (Ag ?_))))
    refine Am (Ad (Ae U U (Ab (.eql (.t U) .c) U (Ae U U (RL.v (.pos U U) (.move (.t U)) U (Ab (.and (.t U) (.g U (λ h=>h))) U (Aj U U (Aa (Ac ?_)))))))))
    refine Af U (λ h=>by simp at h) (λ hb8=>?_)
    try simp only[zb,Bool.and_false]at hb8
    refine Ad (Ae U U (Ab (.leq .c (.t U)) U (Ae U U (RL.v (.pos U U) (.move (.t U)) U (RL.v (.pos U U) (.leq (.g U (λ h=>h)) .c) U (Ab (.and (.t U) (.g U (λ h=>h))) U (Aj U U (Aa (Ac ?_)))))))))
    refine Af rfl ?_ ?_<;>intro hb9<;>try simp only[zb]at hb9
    ·refine CW.region (Ae U U (Ab (.UL (r:=(at' (ints l) k)-48) (.t U) .c (λ _=>by exact Eng.wrap_u8 (by omega))) U (Aj U U (Aa (Ac (Ag ?_))))))
     refine Ad (Ae U U (Ae U U (Ab (.BD (r:=16) (.t U) underlying3 underlying5 (λ _=>by exact Eng.wrap_u8 (by omega))) U (Ab (.geq (.t U) (.t U)) U (Aa (Ac ?_))))))
     refine Af rfl ?_ ?_<;>intro hb10<;>try simp only[zb]at hb10
     ·exfalso;omega
     ·refine Ai (Ac (Ag (Ad (Ae U U (Ae U U (Ab (.geq (.t U) (.t U)) U (Aa (Ac ?_))))))))
      refine Af rfl ?_ ?_<;>intro hb11<;>try simp only[zb]at hb11
      ·exfalso;omega
      ·refine Ai (Ac (Ad (Ae U U (Ae U U (Ab (.BD (r:=16) (.t U) underlying3 underlying230 (λ _=>by exact Eng.wrap_u64 (by omega))) U (Ab (.UM (r:=n*16) (.t U) (.t U) (λ _=>by exact Eng.wrap_u64 (by omega))) U (Aj U U (Aa (Ac ?_)))))))))
       refine Ad (Ae U U (Ae U U (Ab (.BD (r:=(at' (ints l) k)-48) (.t U) underlying5 underlying230 (λ _=>by exact Eng.wrap_u64 (by omega))) U (Ab (.SE (r:=(n*16)+((at' (ints l) k)-48)) (.t U) (.t U) (λ _=>by exact Eng.wrap_u64 (by omega))) U (Aj U U (Aa (CW.at [Y 1 (i64 16),Y 8 (.bool false),Y 9 (str l),Y 10 (.int .u64 1152921504606846976),Y 11 (.int .u64 65535),Y 12 (.bool false),Y 13 (.int .u64 (n*16)),Y 17 (.int .u64 ((n*16)+((at' (ints l) k)-48))),Y 99 v1,Y 100 (i64 (len (ints l))),Y 101 (i64 k)] U (Ag ?_))))))))
       refine Ad (Ae U U (Ae U U (Ab (.lss (.t U) (.t U)) U (Ae U U (RL.v (.neg U U) (.move (.t U)) U (RL.v (.neg U U) (.move (.t U)) U (RL.v (.neg U U) (.gtr (.g U (λ h=>h)) (.g U (λ h=>h))) U (Ab (.or (.t U) (.g U (λ h=>h))) U (Aa (Ac ?_))))))))))
       refine Af rfl ?_ ?_<;>intro hb12<;>try simp only[zb]at hb12
       ·exfalso;omega
       ·refine Ai (Ac ?_)
        refine CW.region (Ae U U (Aj U U (Aa (Ac ?_))))
        refine CW.region (Ab (.add (.t U) .c (λ _=>by omega)) U (Ae U U ?_))
        refine Aa λ a hs=>Exists.intro ((k+1,(n*16)+((at' (ints l) k)-48))) ⟨hs.BC [1,8,9,10,11,12,13,99,100,101],?_,?_⟩
        ·refine⟨hS7,hsl6,?_⟩
         have hx:BU (A2 l k)=at' (ints l) k-48:=by rw[<-hq];exact AB1 hb9
         have hs:=TP (s:=l) (i:=0) (by omega) hk0 (by omega) hok (by omega)
         exact⟨by omega,by omega,hs.1,by rw[hs.2,hx,<-hn]⟩
        ·show Int.toNat _<Int.toNat _;omega
    ·refine Ad (Ae U U ?_)
     refine RL.DC .none call262 (.cons (.t U) .nil) (λ _=>(bT (at' (ints l) k) _ (by omega) (by omega))) U ?_
     refine Ab (.leq .c (.t U)) U (Ae U U (RL.v (.pos U U) (.move (.t U)) U ?_))
     refine RL.DC (.pos U U) call262 (.cons (.g U (λ h=>h)) .nil) (λ hW=>by simp only[zb]at hW;exact(bT (at' (ints l) k) _ (by omega) (by omega))) U ?_
     refine RL.v (.pos U U) (.leq (.g U (λ h=>h)) .c) U (Ab (.and (.t U) (.g U (λ h=>h))) U (Aj U U ?_))
     refine Aa (CW.at [Y 1 (i64 16),Y 8 (.bool false),Y 9 (str l),Y 10 (.int .u64 1152921504606846976),Y 11 (.int .u64 65535),Y 12 (.bool false),Y 13 (.int .u64 n),Y 15 (.int .u8 (at' (ints l) k)),Y 99 v1,Y 100 (i64 (len (ints l))),Y 101 (i64 k),Y 121 (.bool ((decide (97<=(DV (at' (ints l) k))))&&(decide ((DV (at' (ints l) k))<=122))))] U ?_)
     refine Af rfl ?_ ?_<;>intro hb13<;>try simp only[zb]at hb13
     ·refine CW.region (Ae U U ?_)
      refine RL.DC .none call262 (.cons (.t U) .nil) (λ _=>(bT (at' (ints l) k) _ (by omega) (by omega))) U ?_
      refine Ab (.UL (r:=(DV (at' (ints l) k))-97) (.t U) .c (λ _=>by exact Eng.wrap_u8 (by omega))) U (Ab (.SE (r:=((DV (at' (ints l) k))-97)+10) (.t U) .c (λ _=>by exact Eng.wrap_u8 (by omega))) U (Aj U U ?_))
      refine Aa (CW.at [Y 1 (i64 16),Y 8 (.bool false),Y 9 (str l),Y 10 (.int .u64 1152921504606846976),Y 11 (.int .u64 65535),Y 12 (.bool false),Y 13 (.int .u64 n),Y 16 (.int .u8 (((DV (at' (ints l) k))-97)+10)),Y 99 v1,Y 100 (i64 (len (ints l))),Y 101 (i64 k)] U (Ag (Ad (Ae U U (Ae U U (Ab (.BD (r:=16) (.t U) underlying3 underlying5 (λ _=>by exact Eng.wrap_u8 (by omega))) U (Ab (.geq (.t U) (.t U)) U (Aa (Ac ?_)))))))))
      refine Af rfl ?_ ?_<;>intro hb14<;>try simp only[zb]at hb14
      ·refine Ad (Ab (.iface .c underlying248 U) U (Ab (.assign .c) U (Aj U U (Aa (Ac (Ah (hE.r2 U U U ?_)))))))
       have hh:BU (A2 l k)<0:=by rw[<-hq];have:=(hlf.2.1 (by omega) (by omega) (by omega)).2 (by omega);omega
       have hz:=bC (s:=l) (i:=0) (k:=k) (j:=4) (by omega) (by omega) (by omega) (by omega) hh
       rw[JW l 4 (by omega)]at hz
       exact⟨_,rfl,_,_,.inr ⟨_,_,rfl⟩,by rw[hz];rfl,λ _=>rfl,λ h=>(by rw[hz]at h;cases h),rfl,hS7.low⟩
      ·refine Ai (Ac (Ag (Ad (Ae U U (Ae U U (Ab (.geq (.t U) (.t U)) U (Aa (Ac ?_))))))))
       refine Af rfl ?_ ?_<;>intro hb15<;>try simp only[zb]at hb15
       ·exfalso;omega
       ·refine Ai (Ac (Ad (Ae U U (Ae U U (Ab (.BD (r:=16) (.t U) underlying3 underlying230 (λ _=>by exact Eng.wrap_u64 (by omega))) U (Ab (.UM (r:=n*16) (.t U) (.t U) (λ _=>by exact Eng.wrap_u64 (by omega))) U (Aj U U (Aa (Ac ?_)))))))))
        refine Ad (Ae U U (Ae U U (Ab (.BD (r:=((DV (at' (ints l) k))-97)+10) (.t U) underlying5 underlying230 (λ _=>by exact Eng.wrap_u64 (by omega))) U (Ab (.SE (r:=(n*16)+(((DV (at' (ints l) k))-97)+10)) (.t U) (.t U) (λ _=>by exact Eng.wrap_u64 (by omega))) U (Aj U U (Aa (Ac (Ag ?_))))))))
        refine Ad (Ae U U (Ae U U (Ab (.lss (.t U) (.t U)) U (Ae U U (RL.v (.neg U U) (.move (.t U)) U (RL.v (.neg U U) (.move (.t U)) U (RL.v (.neg U U) (.gtr (.g U (λ h=>h)) (.g U (λ h=>h))) U (Ab (.or (.t U) (.g U (λ h=>h))) U (Aa (Ac ?_))))))))))
        refine Af rfl ?_ ?_<;>intro hb16<;>try simp only[zb]at hb16
        ·exfalso;omega
        ·refine Ai (Ac ?_)
         refine CW.region (Ae U U (Aj U U (Aa (Ac ?_))))
         refine CW.region (Ab (.add (.t U) .c (λ _=>by omega)) U (Ae U U ?_))
         refine Aa λ a hs=>Exists.intro ((k+1,(n*16)+(((DV (at' (ints l) k))-97)+10))) ⟨hs.BC [1,8,9,10,11,12,13,99,100,101],?_,?_⟩
         ·refine⟨hS7,hsl6,?_⟩
          have hx:BU (A2 l k)=DV (at' (ints l) k)-97+10:=by rw[<-hq];have:=(hlf.2.1 (by omega) (by omega) (by omega)).1 (by omega);omega
          have hs:=TP (s:=l) (i:=0) (by omega) hk0 (by omega) hok (by omega)
          exact⟨by omega,by omega,hs.1,by rw[hs.2,hx,<-hn]⟩
         ·show Int.toNat _<Int.toNat _;omega
     ·refine Ad (Ab (.iface .c underlying248 U) U (Ab (.assign .c) U (Aj U U (Aa (Ac (Ah (hE.r2 U U U ?_)))))))
      have hh:BU (A2 l k)<0:=by rw[<-hq];have:=hlf.2.2 (by omega) (by omega);omega
      have hz:=bC (s:=l) (i:=0) (k:=k) (j:=4) (by omega) (by omega) (by omega) (by omega) hh
      rw[JW l 4 (by omega)]at hz
      exact⟨_,rfl,_,_,.inr ⟨_,_,rfl⟩,by rw[hz];rfl,λ _=>rfl,λ h=>(by rw[hz]at h;cases h),rfl,hS7.low⟩
   ·refine CW.exit (CW.at [Y 9 (str l),Y 12 (.bool false),Y 13 (.int .u64 n)] U ?_)
    refine Ag (Ad (Ae U U (Ae U U (RL.v (.pos U U) (.move (.t U)) U ?_))))
    refine RL.DC (v:=(.bool false)) (.pos rfl rfl) call263 (.cons (.g rfl (λ h=>by simp_all)) .nil) (λ h=>by cases h) rfl ?_
    refine RL.v (.pos U U) (.not (.g U (λ h=>by simp_all))) U (Ab (.and (.t U) (.g U (λ h=>by simp_all))) U ?_)
    refine Aa (CW.at [Y 13 (.int .u64 n),Y 169 (.bool false)] rfl (Af rfl (λ h=>by cases h) (λ _=>(Ai (Ac (Ad ?_))))))
    refine Ae U U (Aj U U (Ab (.assign .c) U (Aa (Ac ?_))))
    refine Ah (hE.r2 U U U ?_)
    have hk:k=4:=by omega
    rw[hk,JW l 4 (by omega)]at hok hn
    exact⟨_,rfl,_,_,.inl rfl,by rw[hok];rfl,λ h=>(by cases h),λ _=>hn,rfl,hS7.low⟩
theorem AD4(l:A1)(er:Value)(w:World)(hg:Gl w)(hl:len l=4)(he:er= .iface 248 (i64 2)):Calls prog 157 [str [80,97,114,115,101,85,105,110,116],str l,i64 16,i64 16,er].toArray w λ e w'=> ∃v,e= .returned v/\ ∃n,v= .iface 251 (.pointer (some ⟨n,0,none⟩))/\Ext w w':=by
 subst he
 obtain⟨ev,h1,h2⟩:=hg.err
 exact(Tryz.strconv_toError_syntax ⟨⟨[80,97,114,115,101,85,105,110,116]⟩⟩ ⟨⟨l⟩⟩ 16 16 ev w (by show l.length<=_;unfold len at hl;omega) h1 h2).mono λ e w' ⟨n,h,_,_,hb⟩=>⟨_,h,n,rfl,hb⟩
theorem AD5(l:A1)(w:World)(hg:Gl w)(hl:len l=4):
  Calls prog 196 [(str l),(i64 16),(i64 16)].toArray w λ e w'=> ∃v,e= .returned v/\ ∃x er,(er= .nilIface\/ ∃u p,er= .iface u p)/\QS er=ER l/\(ER l=true->x=FC l)/\v= .tuple #[.int .u64 x,er]/\Ext w w':=by
 refine CW.BH func196 U ntmps196 (Nat.le_of_ble_eq_true U) λ Q hE=>?_
 have hS:St w nM w nM []:=Ak ⟨λ _ _ _ h=>by cases h⟩
 refine An [0,1,2] (L':=[Y 0 (str l),Y 1 (i64 16),Y 2 (i64 16)]) ?_ U
 refine Ad (Ab (.assign .c) U (Ab (.assign .c) U (Aa (Ac (Ad ?_)))))
 refine Ae U U (Ae U U (Ae U U ?_))
 refine RL.DP call236 (.cons (.t U) (.cons (.t U) (.cons (.t U) .nil))) (AD3 l _ hl) U ?_
 rintro v3 w4 ⟨px1,er2,her2,her2n,her2i,her2v,rfl,hEer2⟩
 have hS5:=hS.ext hEer2
 refine Ae U U (Ab (.ex (.t U) U) U (Ab (.ex (.t U) U) U (Aj U U (Aj U U ?_))))
 refine Aa (CW.at [Y 0 (str l),Y 1 (i64 16),Y 2 (i64 16),Y 8 (.int .u64 px1),Y 9 er2] U (Ag (Ad (Ae U U (Ab (.V3 (.t U) her2 (by kernel_rfl)) U (Aa (Ac ?_)))))))
 refine Af rfl ?_ ?_<;>intro hb1<;>try simp only[zb]at hb1
 ·refine Ad (Ae U U (Ae U U (Ae U U (Ae U U (Ae U U ?_)))))
  refine RL.DP call157 (.cons .c (.cons (.t U) (.cons (.t U) (.cons (.t U) (.cons (.t U) .nil))))) (AD4 l er2 _ (hg.low hS5.low) hl (her2i hb1)) U ?_
  rintro v7 w8 ⟨nn6,rfl,hEnn6⟩
  have hS9:=hS5.ext hEnn6
  refine Aj U U (Aj U U ?_)
  refine Aa (CW.at [Y 6 (.int .u64 px1),Y 7 (.iface 251 (.pointer (some ⟨nn6,0,none⟩)))] U (Ah (hE.r2 U U U ?_)))
  rw[hb1]at her2n
  exact⟨_,rfl,_,_,.inr ⟨_,_,rfl⟩,her2n,her2v,rfl,hS9.low⟩
 ·refine Ai (Ac (Ad (Ae U U (Aj U U (Ab (.assign .c) U (Aa (Ac ?_)))))))
  refine Ah (hE.r2 U U U ?_)
  rw[hb1]at her2n
  exact⟨_,rfl,_,_,.inl U,her2n,her2v,rfl,hS5.low⟩
theorem AD6{l:A1}(h:l.any (λ b=>[43,45,95].contains b)=true):ER l=false:=by
 rw[List.any_eq_true]at h
 obtain⟨b,hb,hc⟩:=h
 unfold ER
 rw[List.all_eq_false]
 refine⟨b,hb,?_⟩
 simp only[List.contains_cons,List.contains_nil,Bool.or_false,Bool.or_eq_true,beq_iff_eq]at hc
 rcases hc with rfl|rfl|rfl<;>decide
theorem lD(s:A1)(w:World)(hg:Gl w)(hb:len s<=1099511627776):
  Calls prog 148 [(str s)].toArray w λ e w'=>e= .returned (i64 (B9 s))/\Ext w w':=by
 refine CW.BH func148 U ntmps148 (Nat.le_of_ble_eq_true U) λ Q hE=>?_
 have hS:St w nM w nM []:=Ak ⟨λ _ _ _ h=>by cases h⟩
 refine An [0] (L':=[Y 0 (str s)]) ?_ U
 refine Ad (Ab (.assign .c) U (Aa (Ac (Ag ?_))))
 refine Ad (Ae U U (Ab (.BR (.t U) underlying9) U (Ab (.lss (.t U) .c) U (Ae U U (RL.v (.neg U U) (.move (.t U)) U ?_)))))
 refine RL.DC (.neg U U) call77 (.cons (.g U (λ h=>h)) (.cons .c .nil)) (λ hW=>by simp only[zb]at hW;exact(P6 s [92,117] _)) U ?_
 refine RL.v (.neg U U) (.not (.g U (λ h=>h))) U (Ab (.or (.t U) (.g U (λ h=>h))) U (Ae U U (RL.v (.neg U U) (.move (.t U)) U (RL.v (.neg U U) (.KM (.g U (λ h=>h)) .c .c underlying9 (λ hW=>by simp only[zb]at hW;omega)) U ?_))))
 refine RL.D6 hS (.neg U U) call195 (.cons (.g U (λ h=>h)) (.cons .c .nil)) (λ hW=>by simp only[zb]at hW;exact(AD2 (Eng.sub s 2 6) _ (by rw[FB (by omega) (by omega) (by omega)];rfl))) U (λ w1 hS2=>?_)
 refine Ab (.or (.t U) (.g U (λ h=>h))) U ?_
 refine Aa (CW.at [Y 0 (str s),Y 17 (.bool (((decide ((len s)<6))||(!(Lib.hasPrefix s [92,117])))||((Eng.sub s 2 6).any (λ b=>([43,45,95]:A1).contains b))))] U ?_)
 refine Af rfl ?_ ?_<;>intro hb1<;>try simp only[zb]at hb1
 ·refine Ad (Ab (.assign .c) U (Aa (Ac (Ah (hE.r1 U U ?_)))))
  have hq:B9 s= -1:=by
   unfold B9
   split
   ·rfl
   ·rename_i n1;split
    ·rfl
    ·rename_i n2;split
     ·rename_i n3;exfalso;rcases hb1 with(h|h)|h
      ·exact n1 h
      ·exact n2 h
      ·rw[AD6 h]at n3;cases n3
     ·rfl
  rw[hq];exact⟨rfl,hS2.low⟩
 ·refine Ai (Ac (Ad (Ae U U (Ab (.KM (.t U) .c .c underlying9 (λ _=>by omega)) U ?_))))
  refine RL.DP call196 (.cons (.t U) (.cons .c (.cons .c .nil))) (AD5 (Eng.sub s 2 6) _ (hg.low hS2.low) (by rw[FB (by omega) (by omega) (by omega)];rfl)) U ?_
  rintro v5 w6 ⟨px3,er4,her4,her4n,her4v,rfl,hEer4⟩
  have hS7:=hS2.ext hEer4
  refine Ae U U (Ab (.ex (.t U) U) U (Ab (.ex (.t U) U) U (Aj U U (Aj U U ?_))))
  refine Aa (CW.at [Y 3 (.int .u64 px3),Y 4 er4] U (Ag (Ad (Ae U U (Ab (.V3 (.t U) her4 (by kernel_rfl)) U (Aa (Ac ?_)))))))
  refine Af rfl ?_ ?_<;>intro hb2<;>try simp only[zb]at hb2
  ·refine Ad (Ab (.assign .c) U (Aa (Ac (Ah (hE.r1 U U ?_)))))
   have hq:B9 s= -1:=by
    unfold B9
    (repeat' split)<;>first|rfl|(exfalso;rename_i n3;rw[<-her4n,hb2]at n3;cases n3)
   rw[hq];exact⟨rfl,hS7.low⟩
  ·have hk:ER (Eng.sub s 2 6)=true:=by rw[<-her4n];simpa using hb2
   have hx:=her4v hk
   have hxb:=uU (FB (s:=s) (i:=2) (j:=6) (by omega) (by omega) (by omega)) hk
   refine Ai (Ac (Ad (Ae U U (Ab (.BD (r:=px3) (.t U) underlying230 underlying3 (λ _=>by exact Eng.wrap_i64 (by omega))) U (Aj U U (Aa (Ac ?_)))))))
   refine Ah (hE.r1 U U ?_)
   have hq:B9 s=px3:=by
    unfold B9
    rw[if_neg (by omega),if_neg (by rw[hb1.1.2];simp),if_pos hk,hx]
   rw[hq];exact⟨rfl,hS7.low⟩
theorem AD7(s:A1)(w:World)(hg:Gl w)(hb:len s<=1099511627776):
  Calls prog 111 [(str s)].toArray w λ e w'=>e= .returned (.tuple #[(.int .i32 ((AW s).1)),(i64 ((AW s).2))])/\Ext w w':=by
 refine CW.BH func111 U ntmps111 (Nat.le_of_ble_eq_true U) λ Q hE=>?_
 have h1:=OA s
 have h2:=OA (A3 s 6)
 have h3:=LQ s 1
 have hS:St w nM w nM []:=Ak ⟨λ _ _ _ h=>by cases h⟩
 refine An [0] (L':=[Y 0 (str s)]) ?_ U
 refine Ad (Ab (.assign .c) U (Ab (.assign .c) U (Aa (Ac (Ag ?_)))))
 refine Ad (Ae U U (Ab (.BR (.t U) underlying9) U (Ab (.lss (.t U) .c) U (Aa (Ac ?_)))))
 refine Af rfl ?_ ?_<;>intro hb1<;>try simp only[zb,and_true,true_and,false_or,or_false,not_true_eq_false,not_false_eq_true]at hb1
 ·refine Ad (Ab (.assign .c) U (Ab (.assign .c) U (Aa (Ac (Ah (hE.r2 U U U ?_))))))
  have hq:AW s=(0,0):=by
   unfold AW
   rw[if_pos (by omega)]
  rw[hq];exact⟨rfl,hS.low⟩
 ·refine Ai (Ac (Ag ?_))
  refine CW.V5 (σ:=Unit) (λ _=>[Y 0 (str s),Y 4 (.int .i32 (J4 (A2 s 1))),Y 5 (.bool (HU (A2 s 1)))]) (λ _ wm1=>St w nM wm1 nM []/\True) ?_ ?_
  ·refine CW.tG hS N6 (λ w3 hS4=>(RA.two (i:=0) (j:=1) (by decide+kernel) ?_ ?_))
   ·refine RL.DP call147 .nil (WV (Rs:=[]) hS4) U ?_
    rintro v6 w7 ⟨mb5,rfl,hS9⟩
    refine Aa (Al (RA.one (i:=1) (by decide+kernel) (Ae U U (Aa (Al (RA.one (i:=2) (by decide+kernel) ?_))))))
    refine Ab (.C2 (.t U) .c underlying9 (λ _=>by omega)) U (Aa (Al (RA.one (i:=3) (by decide+kernel) ?_)))
    refine Ab (.V2 (k:=.u8) (v:=(.int .i32 (J4 (A2 s 1)))) (q:=HU (A2 s 1)) hS9 AR (i:=0) U (.t U) (.t U) underlying198 underlying5 zeroValue21 (QV _).1 (QV _).2) U (Aa (Al (RA.one (i:=4) (by decide+kernel) ?_)))
    refine Ae U U (Aa (Al (RA.two (i:=5) (j:=6) (by decide+kernel) ?_ ?_)))
    ·refine Ab (.ex (.t U) U) U (Aa (Al (RA.two (i:=6) (j:=7) (by decide+kernel) ?_ ?_)))
     ·refine Ab (.ex (.t U) U) U (Aa (Al (RA.one (i:=7) (by decide+kernel) ?_)))
      refine Aj U U (Aa (Al (RA.one (i:=8) (by decide+kernel) ?_)))
      refine Aj U U (Aa (Al (RA.nil (by decide+kernel) ?_)))
      replace hS9:=hS9.erase 0 U
      exact λ a hs=>⟨(),hs.BC [0,4,5],hS9,trivial⟩
     ·refine Aj U U (Aa (Al (RA.one (i:=6) (by decide+kernel) ?_)))
      refine Ab (.ex (.t U) U) U (Aa (Al (RA.one (i:=8) (by decide+kernel) ?_)))
      refine Aj U U (Aa (Al (RA.nil (by decide+kernel) ?_)))
      replace hS9:=hS9.erase 0 U
      exact λ a hs=>⟨(),hs.BC [0,4,5],hS9,trivial⟩
    ·refine Ab (.ex (.t U) U) U (Aa (Al (RA.one (i:=5) (by decide+kernel) ?_)))
     refine Ab (.ex (.t U) U) U (Aa (Al (RA.one (i:=7) (by decide+kernel) ?_)))
     refine Aj U U (Aa (Al (RA.one (i:=8) (by decide+kernel) ?_)))
     refine Aj U U (Aa (Al (RA.nil (by decide+kernel) ?_)))
     replace hS9:=hS9.erase 0 U
     exact λ a hs=>⟨(),hs.BC [0,4,5],hS9,trivial⟩
   ·refine Ae U U (Aa (Al (RA.two (i:=0) (j:=2) (by decide+kernel) ?_ ?_)))
    ·refine RL.DP call147 .nil (WV (Rs:=[]) hS4) U ?_
     rintro v12 w13 ⟨mb11,rfl,hS15⟩
     refine Aa (Al (RA.one (i:=2) (by decide+kernel) (Ab (.C2 (.t U) .c underlying9 (λ _=>by omega)) U (Aa (Al (RA.one (i:=3) (by decide+kernel) ?_))))))
     refine Ab (.V2 (k:=.u8) (v:=(.int .i32 (J4 (A2 s 1)))) (q:=HU (A2 s 1)) hS15 AR (i:=0) U (.t U) (.t U) underlying198 underlying5 zeroValue21 (QV _).1 (QV _).2) U (Aa (Al (RA.one (i:=4) (by decide+kernel) ?_)))
     refine Ae U U (Aa (Al (RA.two (i:=5) (j:=6) (by decide+kernel) ?_ ?_)))
     ·refine Ab (.ex (.t U) U) U (Aa (Al (RA.two (i:=6) (j:=7) (by decide+kernel) ?_ ?_)))
      ·refine Ab (.ex (.t U) U) U (Aa (Al (RA.one (i:=7) (by decide+kernel) ?_)))
       refine Aj U U (Aa (Al (RA.one (i:=8) (by decide+kernel) ?_)))
       refine Aj U U (Aa (Al (RA.nil (by decide+kernel) ?_)))
       replace hS15:=hS15.erase 0 U
       exact λ a hs=>⟨(),hs.BC [0,4,5],hS15,trivial⟩
      ·refine Aj U U (Aa (Al (RA.one (i:=6) (by decide+kernel) ?_)))
       refine Ab (.ex (.t U) U) U (Aa (Al (RA.one (i:=8) (by decide+kernel) ?_)))
       refine Aj U U (Aa (Al (RA.nil (by decide+kernel) ?_)))
       replace hS15:=hS15.erase 0 U
       exact λ a hs=>⟨(),hs.BC [0,4,5],hS15,trivial⟩
     ·refine Ab (.ex (.t U) U) U (Aa (Al (RA.one (i:=5) (by decide+kernel) ?_)))
      refine Ab (.ex (.t U) U) U (Aa (Al (RA.one (i:=7) (by decide+kernel) ?_)))
      refine Aj U U (Aa (Al (RA.one (i:=8) (by decide+kernel) ?_)))
      refine Aj U U (Aa (Al (RA.nil (by decide+kernel) ?_)))
      replace hS15:=hS15.erase 0 U
      exact λ a hs=>⟨(),hs.BC [0,4,5],hS15,trivial⟩
    ·refine Ab (.C2 (.t U) .c underlying9 (λ _=>by omega)) U (Aa (Al (RA.one (i:=0) (by decide+kernel) ?_)))
     refine RL.DP call147 .nil (WV (Rs:=[]) hS4) U ?_
     rintro v18 w19 ⟨mb17,rfl,hS21⟩
     refine Aa (Al (RA.one (i:=3) (by decide+kernel) (Ab (.V2 (k:=.u8) (v:=(.int .i32 (J4 (A2 s 1)))) (q:=HU (A2 s 1)) hS21 AR (i:=0) U (.t U) (.t U) underlying198 underlying5 zeroValue21 (QV _).1 (QV _).2) U (Aa (Al (RA.one (i:=4) (by decide+kernel) ?_))))))
     refine Ae U U (Aa (Al (RA.two (i:=5) (j:=6) (by decide+kernel) ?_ ?_)))
     ·refine Ab (.ex (.t U) U) U (Aa (Al (RA.two (i:=6) (j:=7) (by decide+kernel) ?_ ?_)))
      ·refine Ab (.ex (.t U) U) U (Aa (Al (RA.one (i:=7) (by decide+kernel) ?_)))
       refine Aj U U (Aa (Al (RA.one (i:=8) (by decide+kernel) ?_)))
       refine Aj U U (Aa (Al (RA.nil (by decide+kernel) ?_)))
       replace hS21:=hS21.erase 0 U
       exact λ a hs=>⟨(),hs.BC [0,4,5],hS21,trivial⟩
      ·refine Aj U U (Aa (Al (RA.one (i:=6) (by decide+kernel) ?_)))
       refine Ab (.ex (.t U) U) U (Aa (Al (RA.one (i:=8) (by decide+kernel) ?_)))
       refine Aj U U (Aa (Al (RA.nil (by decide+kernel) ?_)))
       replace hS21:=hS21.erase 0 U
       exact λ a hs=>⟨(),hs.BC [0,4,5],hS21,trivial⟩
     ·refine Ab (.ex (.t U) U) U (Aa (Al (RA.one (i:=5) (by decide+kernel) ?_)))
      refine Ab (.ex (.t U) U) U (Aa (Al (RA.one (i:=7) (by decide+kernel) ?_)))
      refine Aj U U (Aa (Al (RA.one (i:=8) (by decide+kernel) ?_)))
      refine Aj U U (Aa (Al (RA.nil (by decide+kernel) ?_)))
      replace hS21:=hS21.erase 0 U
      exact λ a hs=>⟨(),hs.BC [0,4,5],hS21,trivial⟩
  ·rintro _ wm1 ⟨hS2,-⟩
   refine Ad (Ae U U (Aa (Ac ?_)))
   refine Af rfl ?_ ?_<;>intro hb2<;>try simp only[zb,hb1,and_true,true_and,false_or,or_false,not_true_eq_false,not_false_eq_true]at hb2
   ·refine Ad (Ae U U (Aj U U (Ab (.assign .c) U (Aa (Ac (Ah (hE.r2 U U U ?_)))))))
    have hq:AW s=(J4 (A2 s 1),2):=by
     unfold AW
     rw[if_neg (by omega),if_pos hb2]
    rw[hq];exact⟨rfl,hS2.low⟩
   ·refine Ai (Ac (Ad (Ae U U ?_)))
    refine RL.D6 hS2 .none call148 (.cons (.t U) .nil) (λ _=>(lD s _ (hg.low hS2.low) (by omega))) U (λ w23 hS24=>?_)
    refine Aj U U ?_
    refine Aa (CW.at [Y 0 (str s),Y 6 (i64 (B9 s))] U (Ag (Am (Ad ?_))))
    refine Ae U U (Ab (.lss (.t U) .c) U (Ae U U (RL.v (.neg U U) (.move (.t U)) U (RL.v (.neg U U) (.geq (.g U (λ h=>h)) .c) U (RL.v (.neg U U) (.move (.g U (λ h=>h))) U ?_)))))
    refine RL.v (.DY U U) (.move (.t U)) U (RL.v (.DY U U) (.lss (.g U (λ h=>h)) .c) U (RL.v (.neg U U) (.and (.g U (λ h=>h)) (.g U (λ h=>h))) U (Ab (.or (.t U) (.g U (λ h=>h))) U (Aj U U (Aa (Ac ?_))))))
    refine Af rfl ?_ ?_<;>intro hb3<;>try simp only[zb,hb1,hb2,and_true,true_and,false_or,or_false,not_true_eq_false,not_false_eq_true]at hb3
    ·refine Ad (Ab (.assign .c) U (Ab (.assign .c) U (Aa (Ac (Ah (hE.r2 U U U ?_))))))
     have hq:AW s=(0,0):=by
      unfold AW
      rw[if_neg (by omega),if_neg (by rw[hb2];simp),if_pos (by omega)]
     rw[hq];exact⟨rfl,hS24.low⟩
    ·refine Ad (Ae U U (Ab (.lss (.t U) .c) U (Ae U U (RL.v (.neg U U) (.move (.t U)) U (RL.v (.neg U U) (.geq (.g U (λ h=>h)) .c) U (Ab (.or (.t U) (.g U (λ h=>h))) U (Aj U U (Aa (Ac ?_)))))))))
     refine Af rfl ?_ ?_<;>intro hb4<;>try simp only[zb,hb1,hb2,hb3,and_true,true_and,false_or,or_false,not_true_eq_false,not_false_eq_true]at hb4
     ·refine Ad (Ae U U (Ab (.BD (r:=B9 s) (.t U) underlying3 underlying21 (λ _=>by exact Eng.wrap_i32 (by omega))) U (Aj U U (Ab (.assign .c) U (Aa (Ac (Ah (hE.r2 U U U ?_))))))))
      have hq:AW s=(B9 s,6):=by
       unfold AW
       rw[if_neg (by omega),if_neg (by rw[hb2];simp),if_neg (by omega),if_pos (by omega)]
      rw[hq];exact⟨rfl,hS24.low⟩
     ·refine Ai (Ac (Ad (Ae U U (Ab (.JS (.t U) .c underlying9 (λ _=>by omega)) U ?_))))
      refine RL.D6 hS24 .none call148 (.cons (.t U) .nil) (λ _=>(lD (Eng.A3 s 6) _ (hg.low hS24.low) (by first|omega|exact Int.le_trans (LU _ _).2 (by omega)))) U (λ w25 hS26=>?_)
      refine Aj U U ?_
      refine Aa (CW.at [Y 6 (i64 (B9 s)),Y 7 (i64 (B9 (Eng.A3 s 6)))] U (Ag (Ad (Ae U U (Ab (.lss (.t U) .c) U (Ae U U (RL.v (.neg U U) (.move (.t U)) U (RL.v (.neg U U) (.geq (.g U (λ h=>h)) .c) U (Ab (.or (.t U) (.g U (λ h=>h))) U (Aa (Ac ?_)))))))))))
      refine Af rfl ?_ ?_<;>intro hb5<;>try simp only[zb,hb1,hb2,hb3,hb4,and_true,true_and,false_or,or_false,not_true_eq_false,not_false_eq_true]at hb5
      ·refine Ad (Ab (.assign .c) U (Ab (.assign .c) U (Aa (Ac (Ah (hE.r2 U U U ?_))))))
       have hq:AW s=(0,0):=by
        unfold AW
        rw[if_neg (by omega),if_neg (by rw[hb2];simp),if_neg (by omega),if_neg (by omega),if_pos (by omega)]
       rw[hq];exact⟨rfl,hS26.low⟩
      ·refine Ai (Ac (Ad (Ae U U (Ab (.sub (.t U) .c (λ _=>by omega)) U (Ab (.bin (v:=.int .i64 (((B9 s)-55296)*1024)) (.t U) .c (λ hW w _=>((λ _=>by simp[go_sem,binOp];exact Eng.wrap_i64 (by omega))) hW)) U (Ab (.add .c (.t U) (λ _=>by omega)) U (Ae U U (Ab (.add (.t U) (.t U) (λ _=>by omega)) U (Ab (.sub (.t U) .c (λ _=>by omega)) U (Ab (.BD (r:=((65536+(((B9 s)-55296)*1024))+(B9 (Eng.A3 s 6)))-56320) (.t U) underlying3 underlying21 (λ _=>by exact Eng.wrap_i32 (by omega))) U (Aj U U (Ab (.assign .c) U (Aa (Ac ?_))))))))))))))
       refine Ah (hE.r2 U U U ?_)
       have hq:AW s=(((65536+(((B9 s)-55296)*1024))+(B9 (Eng.A3 s 6)))-56320,12):=by
        unfold AW
        rw[if_neg (by omega),if_neg (by rw[hb2];simp),if_neg (by omega),if_neg (by omega),if_neg (by omega)]
       rw[hq];exact⟨rfl,hS26.low⟩
theorem lE{l:List Int}{r i n:Int}(h:len l<=4*i)(hn:1<=n):len (l++CB r)<=4*(i+n):=by
 have:=Lib.encodeRuneZ_length r
 rw[A5]
 have hz:len (CB r)<=4:=by unfold len CB;omega
 omega
theorem lF{l:List Int}(r:Int)(h:ints (toStr l)=l):ints (toStr (l++CB r))=l++CB r:=by
 have h2:ints (toStr (CB r))=CB r:=by
  unfold ints toStr
  rw[List.map_map]
  conv=>rhs;rw[<-List.map_id (CB r)]
  apply List.map_congr_left
  intro x hx
  have:=Lib.encodeRuneZ_byte r x hx
  simp;omega
 rw[show toStr (l++CB r)=toStr l++toStr (CB r)from List.map_append,QQ,h,h2]
theorem WX(s:A1)(w:World)(hg:Gl w)(hb:len s<=1099511627776):
  Calls prog 78 [(str s)].toArray w λ e w'=>e= .returned (.tuple #[(str ((AH s).1)),(i64 ((AH s).2.1)),(i64 ((AH s).2.2))])/\Ext w w':=by
 refine CW.BH func78 U ntmps78 (Nat.le_of_ble_eq_true U) λ Q hE=>?_
 have:=A4 s
 have hS:St w nM w nM []:=Ak ⟨λ _ _ _ h=>by cases h⟩
 refine An [0] (L':=[Y 0 (str s)]) ?_ U
 refine Ad (Ab (.assign .c) U (Ab (.assign .c) U (Ab (.assign .c) U (Aa (Ac (Ag ?_))))))
 refine Ad (Ae U U ?_)
 refine RL.DC .none call77 (.cons (.t U) (.cons .c .nil)) (λ _=>(P6 s [34] _)) U ?_
 refine Ab (.not (.t U)) U ?_
 refine Aa (CW.at [Y 0 (str s),Y 12 (.bool (!(Lib.hasPrefix s [34])))] U ?_)
 refine Af rfl ?_ ?_<;>intro hb1<;>try simp only[zb]at hb1
 ·refine Ad (Ab (.assign .c) U (Ab (.assign .c) U (Ab (.assign .c) U (Aa (Ac (Ah (hE.r3 U U U U ?_)))))))
  have hq:AH s=([],0,1):=by unfold AH;rw[if_neg (by rw[hb1];simp)]
  rw[hq];exact⟨rfl,hS.low⟩
 ·refine Ai (Ac (Ad ?_))
  refine RL.alloc hS zeroValue163 U (λ w1 b2 hS3=>?_)
  have hS4:=hS3.KN 5 1
  refine Aa (Ac (Ag (Ad (Ab (.assign .c) U (Aa (Ac ?_))))))
  refine Am ?_
  refine CW.loop (σ:=Nat×Int×Value×Value×List Int×Mem) (λ(f,i,av,vl,ll,Ml)=>[Y 0 (str s),Y 5 (.pointer (some ⟨b2,0,none⟩)),Y 6 (i64 i)]) (λ(f,i,av,vl,ll,Ml) wl=>St w nM wl Ml [.own 5 1 vl ll.length (ll.flatMap AQ),.box b2 [av,vl] 163]/\1<=i/\(av= .pointer none\/av=CC b2)/\DL f s i ll=AH s/\len ll<=4*i/\(len s-i).toNat<=f/\ints (toStr ll)=ll) (λ(f,i,av,vl,ll,Ml)=>(len s-i).toNat) ((s.length,1,.pointer none,.slice none 0 0,[],nM)) [0,5,6] U ?_ ?_
  ·refine⟨hS4,?_⟩;exact⟨by omega,.inl U,by unfold AH;rw[if_pos hb1],by decide,by unfold len;omega,rfl⟩
  ·rintro⟨f,i,av,vl,ll,Ml⟩ wl ⟨hS5,h0,hav,hF,hlen,hf,hB⟩
   have hrl:=SP (A3 s i) 0 (by omega)
   have hrb:=VB (A3 s i) 0
   have heb:=uV (A3 s i)
   have hln:=A4 ll
   refine Ag (Ad (Ae U U (Ae U U (Ab (.BR (.t U) underlying9) U (Ab (.lss (.t U) (.t U)) U (Aa (Ac ?_)))))))
   refine Af rfl ?_ ?_<;>intro hb2<;>try simp only[zb]at hb2
   ·refine Ai (Ac (Am (Ad (Ae U U (Ae U U (Ab (.JS (.t U) (.t U) underlying9 (λ _=>by omega)) U ?_))))))
    refine RL.D6 hS5 .none call106 (.cons (.t U) .nil) (λ _=>(u4 (Eng.A3 s i) _ (hg.low hS5.low) (by rw[CO _ _ (by omega) (by omega)];omega))) U (λ w6 hS7=>?_)
    refine Ae U U (Ab (.ex (.t U) U) U (Ab (.ex (.t U) U) U (Aj U U (Aj U U ?_))))
    refine Aa (CW.at [Y 0 (str s),Y 5 (.pointer (some ⟨b2,0,none⟩)),Y 6 (i64 i),Y 7 (.int .i32 (AO (Eng.A3 s i) 0)),Y 8 (i64 (runeLen (Eng.A3 s i) 0))] U (Ad (Ae U U (Ab (.eql (.t U) .c) U (Ae U U (RL.v (.pos U U) (.move (.t U)) U (RL.v (.pos U U) (.eql (.g U (λ h=>h)) .c) U (Ab (.and (.t U) (.g U (λ h=>h))) U (Aj U U (Aa (Ac ?_)))))))))))
    refine Ag (Am (Ad (Ae U U (Ab (.eql (.t U) .c) U (Aj U U (Aa (Ac ?_)))))))
    refine Af rfl ?_ ?_<;>intro hb3<;>try simp only[zb]at hb3
    ·refine Ad ?_
     replace hS7:=(hS7.front 0 U U).front 1 U U
     refine RL.DP call110 (.cons (.t U) .nil) (bS (Rs:=[]) b2 av vl (toStr ll) ll hS7 (by first|assumption|exact Or.inr U|exact Or.inl U) hB.symm) U ?_
     rintro _ w8 ⟨rfl,hE9⟩
     have hS10:St w nM w8 nM []:=(Ak ⟨λ _ _ _ h=>by cases h⟩).ext hE9
     refine Ae U U (Ab (.add (.t U) .c (λ _=>by omega)) U (Aj U U (Aj U U (Ab (.assign .c) U ?_))))
     refine Aa (CW.at [Y 2 (str (toStr ll)),Y 3 (i64 (i+1)),Y 4 (i64 0)] U (Ah (hE.r3 U U U U ?_)))
     have hq:AH s=(toStr ll,i+1,0):=by rw[<-hF,KS hf hb2,if_pos hb3]
     rw[hq];exact⟨rfl,hS10.low⟩
    ·refine Ad (Ae U U (Ab (.eql (.t U) .c) U (Aj U U (Aa (Ac ?_)))))
     refine Af rfl ?_ ?_<;>intro hb4<;>try simp only[zb]at hb4
     ·refine Ad (Ae U U (Ae U U (Ab (.JS (.t U) (.t U) underlying9 (λ _=>by omega)) U ?_)))
      refine RL.D6 hS7 .none call111 (.cons (.t U) .nil) (λ _=>(AD7 (Eng.A3 s i) _ (hg.low hS7.low) (by first|omega|exact Int.le_trans (LU _ _).2 (by omega)))) U (λ w11 hS12=>?_)
      refine Ae U U (Ab (.ex (.t U) U) U (Ab (.ex (.t U) U) U (Aj U U (Aj U U ?_))))
      refine Aa (CW.at [Y 0 (str s),Y 5 (.pointer (some ⟨b2,0,none⟩)),Y 6 (i64 i),Y 7 (.int .i32 ((AW (Eng.A3 s i)).1)),Y 8 (i64 ((AW (Eng.A3 s i)).2))] U ?_)
      refine CW.region (Ae U U (Ab (.eql (.t U) .c) U (Aj U U (Aa (Ac (Ag ?_))))))
      refine Ad (Ae U U (Aa (Ac ?_)))
      refine Af rfl ?_ ?_<;>intro hb5<;>try simp only[zb]at hb5
      ·refine Ad (Ae U U (Ab (.assign .c) U (Aj U U (Ab (.assign .c) U (Aa (Ac (Ah (hE.r3 U U U U ?_))))))))
       have hq:AH s=([],i,1):=by rw[<-hF,KS hf hb2,if_neg hb3,if_pos hb4,if_pos hb5]
       rw[hq];exact⟨rfl,hS12.low⟩
      ·refine Ai (Ac (Ad (Ae U U ?_)))
       replace hS12:=(hS12.front 0 U U).front 1 U U
       refine RL.DP call112 (.cons (.t U) (.cons (.t U) .nil)) (bR (Rs:=[]) b2 av ll ((AW (Eng.A3 s i)).1) vl hS12 (by first|assumption|exact Or.inr U|exact Or.inl U) (by omega) (by omega)) U ?_
       rintro v14 w15 ⟨vb13,M16,rfl,hS17,hle18⟩
       refine Aa (CW.at [Y 0 (str s),Y 5 (.pointer (some ⟨b2,0,none⟩)),Y 6 (i64 i),Y 8 (i64 ((AW (Eng.A3 s i)).2))] U ?_)
       refine CW.region (Ae U U (Ae U U (Ab (.add (.t U) (.t U) (λ _=>by omega)) U (Aj U U ?_))))
       replace hS17:=hS17.front 1 U U
       refine Aa λ a hs=>Exists.intro ((f-1,i+((AW (Eng.A3 s i)).2),(CC b2),vb13,ll++CB ((AW (Eng.A3 s i)).1),M16)) ⟨hs.BC [0,5,6],?_,?_⟩
       ·refine⟨hS17,?_⟩
        exact⟨by omega,.inr U,by rw[<-hF,KS hf hb2,if_neg hb3,if_pos hb4,if_neg hb5],lE hlen (by omega),by omega,lF _ hB⟩
       ·show Int.toNat _<Int.toNat _;first|omega|(have hrl2:=hrl (by rw[CO _ _ (by omega) (by omega)];omega);omega)
     ·refine Ad (Ae U U (Ab (.lss (.t U) .c) U (Aj U U (Aa (Ac ?_)))))
      refine Af rfl ?_ ?_<;>intro hb6<;>try simp only[zb]at hb6
      ·refine CW.region (Ab (.assign .c) U (Aa (Ac (Ag ?_))))
       refine Ad (Ae rfl rfl (Aa (Ac (Af rfl (λ _=>?_) (λ h=>by cases h)))))
       refine Ad (Ae U U (Ab (.assign .c) U (Aj U U (Ab (.assign .c) U (Aa (Ac (Ah (hE.r3 U U U U ?_))))))))
       have hq:AH s=([],i,1):=by rw[<-hF,KS hf hb2,if_neg hb3,if_neg hb4,if_pos (.inl hb6)]
       rw[hq];exact⟨rfl,hS7.low⟩
      ·refine Ai (Ac (Ag (Ad (Ae U U (Aa (Ac ?_))))))
       refine Af rfl ?_ ?_<;>intro hb8<;>try simp only[zb]at hb8
       ·refine Ad (Ae U U (Ab (.assign .c) U (Aj U U (Ab (.assign .c) U (Aa (Ac (Ah (hE.r3 U U U U ?_))))))))
        have hq:AH s=([],i,1):=by rw[<-hF,KS hf hb2,if_neg hb3,if_neg hb4,if_pos (.inr hb8)]
        rw[hq];exact⟨rfl,hS7.low⟩
       ·refine Ai (Ac (Ad (Ae U U ?_)))
        replace hS7:=(hS7.front 0 U U).front 1 U U
        refine RL.DP call112 (.cons (.t U) (.cons (.t U) .nil)) (bR (Rs:=[]) b2 av ll (AO (Eng.A3 s i) 0) vl hS7 (by first|assumption|exact Or.inr U|exact Or.inl U) (by omega) (by omega)) U ?_
        rintro v20 w21 ⟨vb19,M22,rfl,hS23,hle24⟩
        refine Aa (CW.at [Y 0 (str s),Y 5 (.pointer (some ⟨b2,0,none⟩)),Y 6 (i64 i),Y 8 (i64 (runeLen (Eng.A3 s i) 0))] U ?_)
        refine CW.region (Ae U U (Ae U U (Ab (.add (.t U) (.t U) (λ _=>by first|omega|(have hrl2:=hrl (by rw[CO _ _ (by omega) (by omega)];omega);rw[CO _ _ (by omega) (by omega)]at hrl2;omega))) U (Aj U U ?_))))
        replace hS23:=hS23.front 1 U U
        refine Aa λ a hs=>Exists.intro ((f-1,i+(runeLen (Eng.A3 s i) 0),(CC b2),vb19,ll++CB (AO (Eng.A3 s i) 0),M22)) ⟨hs.BC [0,5,6],?_,?_⟩
        ·refine⟨hS23,?_⟩
         have hrl2:=hrl (by rw[CO _ _ (by omega) (by omega)];omega)
         exact⟨by omega,.inr rfl,by rw[<-hF,KS hf hb2,if_neg hb3,if_neg hb4,if_neg (by rintro(h|⟨h,h2⟩)<;>omega)],lE hlen (by omega),by omega,lF _ hB⟩
        ·show Int.toNat _<Int.toNat _;first|omega|(have hrl2:=hrl (by rw[CO _ _ (by omega) (by omega)];omega);omega)
   ·refine CW.exit (CW.at [Y 0 (str s)] U ?_)
    refine Ad (Ae U U (Ab (.BR (.t U) underlying9) U (Ab (.assign .c) U (Aj U U (Ab (.assign .c) U (Aa (Ac (Ah (hE.r3 U U U U ?_)))))))))
    have hq:AH s=([],len s,1):=by rw[<-hF,gV hb2]
    rw[hq];exact⟨rfl,hS5.low⟩
end Go.Proofs.YtmjpjbmeamnfpaaGreatDoor
namespace Go.Eng
open Go.RowKit
theorem lG{c:Cx}{B:Exit->Act->World->Prop}{k k':List Fr}{m:Md}{s s':XS}{x z:Code}{O:Prop}{E:List Ck}(n:Nat)(J:XS->Prop)(h:exec c.T c.N n k m s.F s.H s.L ((0:Int)=0) []=⟨k',.code (.seq x z),s',O,E⟩)(hE:AD E)(hO:O)(h1:XG c B (.loop J::k') (.code x) s')(h2: ∀s',J s'->XG c B k' (.code z) s'):XG c B k m s:=by
 have:=G8 (c:=c) (B:=B) n k m s.F s.H s.L ((0:Int)=0) []
 rw[h]at this
 refine(this hO hE λ a w hs=>c.W.seq ?_).2.2
 have hm: ∀e a w,post c B (.loop J::k') e a w->Exit.then (c.W.wp z (post c B k')) (post c B k') e a w:=λ e a w h=>RI (λ a w ⟨s',hJ,hs⟩=>h2 s' hJ a w hs) (λ _ _ _ h=>h) e a w h
 exact c.W.mono (h1 a w hs) hm
end Go.Eng
namespace Go.Proofs.YtmjpjbmeamnfpaaGreatDoor
open Go.Proofs.Tryz
open Go.Eng
theorem toE{P:Program}{f:FuncId}{args:Array Value}{w:World}{u:Value}(h:Calls P f args w λ e w'=>e= .returned u/\w'=w):Calls P f args w λ e w'=>e= .returned u/\Ext w w':=h.mono λ e w' ⟨h1,h2⟩=>⟨h1,by rw[h2];exact .refl _⟩
theorem mix:prog.follows .mixedOrders=true:=by kernel_rfl
theorem AD9(neg:Bool)(s:A1)(x:Int)(w:World)(hg:Gl w)(hb:len s<=1099511627776):
   Calls prog 121 [.bool neg,str s,i64 x].toArray w λ e w'=>e= .returned (.tuple #[H9 (EL neg s x).1,i64 (EL neg s x).2])/\Ext w w':=by
 have hl5:=gN s
 have hl1:=gM s
 have hl2:=uI (AT s)
 have hl3:=A4 (AT s)
 have hl4:=A4 (D7 (AT s))
 refine AU AP func121 U ntmps121 [] [] [.v (.bool neg),.v (str s),I x] U (G7 w) AA (λ B hB=>?_) U
 refine CU 1 U (A0 U) U zeroValue46 U λ bb=>?_
 refine AY U (A0 U) U call158 U U (A0 U) (λ _ w M hX=>l6 s w (hg.low hX.st.low) (by omega)) U ?_
 refine A7 U (A0 U) U (λ h1=>?_) (λ h1=>?_)<;>simp only[zb]at h1
 ·exact A9 hB U U (A0 U) U U (A0 U) λ w M hX=>⟨by unfold EL;rw[h1];rfl,hX.st.low⟩
 refine AY (u:=str (AT s)) U (A0 U) U call47 U U (A0 U) (λ _ w M hX=>V7 s [48] w (by decide) (TV (by decide))) U ?_
 refine A7 (b:=AT s==[]) U (A0 U) U (λ h2=>?_) (λ h2=>?_)
 ·exact A9 hB U U (A0 U) U U (A0 U) λ w M hX=>⟨by unfold EL;rw[if_pos h1,if_pos h2];rfl,hX.st.low⟩
 have h2': ¬(AT s==[])=true:=by rw[h2];decide
 refine A7 U (A0 U) U (λ h3=>?_) (λ h3=>?_)
 ·exact A9 hB U U (A0 U) U U (A0 U) λ w M hX=>⟨by unfold EL;rw[if_pos h1,if_neg h2',if_pos h3];rfl,hX.st.low⟩
 have h3':=Bool.eq_false_iff.1 h3
 simp only[zb]at h3
 refine AY (u:=str (D7 (AT s))) U (A0 U) U call159 U U (A0 U) (λ _ w M hX=>u0 (AT s) [48] w (by omega) (by decide) (TV (by decide))) U ?_
 refine AY (u:=.bool (decide (-1000<=x+(len (AT s)-len (D7 (AT s))))&&decide (x+(len (AT s)-len (D7 (AT s)))<=1000)&&decide (len (D7 (AT s))+(x+(len (AT s)-len (D7 (AT s))))<=1000))) U (A0 U) (by show _/\_;simp only[zb]<;>omega) call160 U U (A0 U) (λ _ w M hX=>toE (l7 (len (D7 (AT s))) (x+(len (AT s)-len (D7 (AT s)))) w (by omega))) U ?_
 have hz5:=hl5
 refine A7 U (A0 U) U (λ h4=>?_) (λ h4=>?_)<;>simp only[zb]at h4
 ·exact A9 hB U U (A0 U) U U (A0 U) λ w M hX=>⟨by unfold EL;rw[if_pos h1,if_neg h2',if_neg h3',if_pos (by simp only[zb];have:=hz5 (by simpa using h2);omega)];rfl,hX.st.low⟩
 ·exact A9 hB U U (A0 U) U U (A0 U) λ w M hX=>⟨by unfold EL;rw[if_pos h1,if_neg h2',if_neg h3',if_neg (by simp only[zb];omega)];rfl,hX.st.low⟩
theorem bU{w wv:World}{M0 M:Mem}{Rs:List HO}(s:A1)(p:Int)(bp bs:Nat)(hS:St w M0 wv M ([.box bp [i64 p] 3,.box bs [str s] 9]++Rs))(h0:0<=p)(h1:p<=len s)(hb:len s<=9223372036854775807):
  Calls prog 116 [.pointer (some ⟨bp,0,none⟩),.pointer (some ⟨bs,0,none⟩)].toArray wv (DT w M0 M Rs (λ _:Unit=>str (Eng.sub s p (AI s p))) (λ _=>True) (λ _=>[]) λ _=>[.box bp [i64 (AI s p)] 3,.box bs [str s] 9]):=
 (AA1 s p bp bs hS h0 h1 hb).mono λ e w' ⟨v,he,hv,hs⟩=>⟨(),M,by rw[he,hv],trivial,λ _ _ _ h=>h,hs,AA⟩
theorem TW{w wv:World}{M0 M:Mem}{Rs:List HO}(s signs:A1)(p:Int)(bp bs:Nat)(hS:St w M0 wv M ([.box bp [i64 p] 3,.box bs [str s] 9]++Rs))(h0:0<=p)(h1:p<=len s)(hb:len s<9223372036854775807):
  Calls prog 118 [str signs,.pointer (some ⟨bp,0,none⟩),.pointer (some ⟨bs,0,none⟩)].toArray wv (DT w M0 M Rs (λ _:Unit=>.bool (BK s signs p)) (λ _=>True) (λ _=>[]) λ _=>[.box bp [i64 (B3 s signs p)] 3,.box bs [str s] 9]):=
 (AA2 s signs p bp bs hS h0 h1 hb).mono λ e w' ⟨v,he,hv,hs⟩=>⟨(),M,by rw[he,hv],trivial,λ _ _ _ h=>h,hs,AA⟩
theorem lH(s:A1)(w:World)(hg:Gl w)(hb:len s<=1099511627776):
    Calls prog 80 [str s].toArray w λ e w'=>e= .returned (.tuple #[H9 (BW s).1,i64 (BW s).2.1,i64 (BW s).2.2])/\Ext w w':=by
 have hl0:=A4 s
 refine AU AP func80 U ntmps80 [] [] [.v (str s)] U (G7 w) AA (λ B hB=>?_) U
 refine F0 1 U (A0 U) U U U (A0 U) λ b1=>?_
 refine CU 2 U (A0 U) U zeroValue46 U λ b2=>?_
 refine CU 5 U (A0 U) U zeroValue3 U λ b5=>?_
 refine CY (.v (.func (.func 116) #[] #[.pointer (some ⟨b5,0,none⟩),.pointer (some ⟨b1,0,none⟩)])) U (A0 U) U U (λ w M hX=>PV.makeFunc (xs:=[]) (ys:=[.tmp 5,.tmp 1]) (vs:=[]) (us:=[.pointer (some ⟨b5,0,none⟩),.pointer (some ⟨b1,0,none⟩)]) trivial ⟨AN (v:=.bx 5 b5 0) (E:=[]) U (A0 U),AN (v:=.bx 1 b1 0) (E:=[]) U (A0 U),trivial⟩) ?_
 refine CY (.v (.func (.func 118) #[] #[.pointer (some ⟨b5,0,none⟩),.pointer (some ⟨b1,0,none⟩)])) U (A0 U) U U (λ w M hX=>PV.makeFunc (xs:=[]) (ys:=[.tmp 5,.tmp 1]) (vs:=[]) (us:=[.pointer (some ⟨b5,0,none⟩),.pointer (some ⟨b1,0,none⟩)]) trivial ⟨AN (v:=.bx 5 b5 0) (E:=[]) U (A0 U),AN (v:=.bx 1 b1 0) (E:=[]) U (A0 U),trivial⟩) ?_
 obtain⟨neg,hneg⟩: ∃n,n=BK s [45] 0:=⟨_,rfl⟩
 obtain⟨a0,ha0⟩: ∃a,a=B3 s [45] 0:=⟨_,rfl⟩
 have ha:=O8 s [45] 0 hl0
 refine BQ [5,1] (λ _=>.v (.bool neg)) [] (λ _=>[(5,.box b5 [I a0] 3),(1,.box b1 [.v (str s)] 9)]) U (A0 U) U U call118 U U (A0 U) U (λ w M hS hF=>TW s [45] 0 b5 b1 hS (by omega) (by omega) (by omega)) (λ _=>by rw[hneg];rfl) (λ _=>by rw[ha0];rfl) λ _ _=>?_
 rw[<-ha0]at ha
 obtain⟨b0,hb0⟩: ∃b,b=AI s a0:=⟨_,rfl⟩
 have hbb:=KQ s a0 (by omega) (by omega)
 refine BQ [5,1] (λ _=>.v (str (Eng.sub s a0 b0))) [] (λ _=>[(5,.box b5 [I b0] 3),(1,.box b1 [.v (str s)] 9)]) U (A0 U) U U call116 U U (A0 U) U (λ w M hS hF=>bU s a0 b5 b1 hS (by omega) (by omega) (by omega)) (λ _=>by rw[hb0];rfl) (λ _=>by rw[hb0];rfl) λ _ _=>?_
 rw[<-hb0]at hbb
 have hfl:=FB (s:=s) (i:=a0) (j:=b0) (by omega) (by omega) (by omega)
 have hR:BW s=(if 1<len (Eng.sub s a0 b0)/\A2 (Eng.sub s a0 b0) 0=48 then(B2,a0+1,1)else if Eng.sub s a0 b0=[]then(B2,b0,1)else if BK s [46] b0 then(if Eng.sub s (B3 s [46] b0) (AI s (B3 s [46] b0))=[]then(B2,AI s (B3 s [46] b0),1)else FN s neg (Eng.sub s a0 b0++Eng.sub s (B3 s [46] b0) (AI s (B3 s [46] b0))) (-(len (Eng.sub s (B3 s [46] b0) (AI s (B3 s [46] b0))))) (AI s (B3 s [46] b0)))else FN s neg (Eng.sub s a0 b0) 0 (B3 s [46] b0)):=by rw[hneg,hb0,ha0];rfl
 refine A7 U (A0 U) (by simp only[zb]<;>omega) (λ h1=>?_) (λ h1=>?_)
 ·simp only[zb]at h1
  refine A9 hB U U (A0 U) (by omega) U (A0 U) λ w M hX=>⟨?_,hX.st.low⟩
  rw[hR,if_pos h1];rfl
 have h1': ¬(1<len (Eng.sub s a0 b0)/\A2 (Eng.sub s a0 b0) 0=48):=by simp only[zb]at h1;omega
 rw[if_neg h1']at hR
 refine lG 14 (λ st=> ∃(bad:Bool) (fg:A1) (x q:Int),0<=q/\q<=len s/\len fg<=len s/\ -(len s)<=x/\x<=0/\BW s=(if bad=true then(B2,q,1)else FN s neg fg x q)/\st=⟨[],[(5,.box b5 [I q] 3),(1,.box b1 [.v (str s)] 9),(2,.box b2 [I 0,I 0,.v (str []),.v (str []),.v (.bool false),I 0] 46)],[Z 1 (.bx 1 b1 0),Z 2 (.bx 2 b2 0),Z 5 (.bx 5 b5 0),Z 6 (.v (.func (.func 116) #[] #[.pointer (some ⟨b5,0,none⟩),.pointer (some ⟨b1,0,none⟩)])),Z 7 (.v (.func (.func 118) #[] #[.pointer (some ⟨b5,0,none⟩),.pointer (some ⟨b1,0,none⟩)])),Z 8 (.v (.bool neg)),Z 10 (.v (str fg)),Z 11 (.v (.bool bad)),Z 12 (I x)]⟩) U (A0 U) (by simp only[zb]<;>omega) ?_ ?_
 ·refine L3 (.v (.bool false)) U (A0 U) U U (λ h2=>?_) (λ h2=>?_)
  ·have hne: ¬Eng.sub s a0 b0=[]:=by simpa using h2
   rw[if_neg hne]at hR
   obtain⟨p0,hp0⟩: ∃p,p=B3 s [46] b0:=⟨_,rfl⟩
   have hpb:=O8 s [46] b0 (by omega)
   refine BQ [5,1] (λ _=>.v (.bool (BK s [46] b0))) [] (λ _=>[(5,.box b5 [I p0] 3),(1,.box b1 [.v (str s)] 9)]) U (A0 U) U U call118 U U (OK h2 U) U (λ w M hS hF=>TW s [46] b0 b5 b1 hS (by omega) (by omega) (by omega)) (λ _=>rfl) (λ _=>by rw[hp0];rfl) λ _ _=>?_
   rw[<-hp0]at hpb hR
   refine A7 U (A0 U) U (λ h3=>?_) (λ h3=>?_)
   ·have h3':BK s [46] b0=true:=by simpa[hne]using h3
    rw[if_pos h3']at hR
    obtain⟨q0,hq0⟩: ∃q,q=AI s p0:=⟨_,rfl⟩
    have hqb:=KQ s p0 (by omega) (by omega)
    refine BQ [5,1] (λ _=>.v (str (Eng.sub s p0 q0))) [] (λ _=>[(5,.box b5 [I q0] 3),(1,.box b1 [.v (str s)] 9)]) U (A0 U) U U call116 U U (A0 U) U (λ w M hS hF=>bU s p0 b5 b1 hS (by omega) (by omega) (by omega)) (λ _=>by rw[hq0];rfl) (λ _=>by rw[hq0];rfl) λ _ _=>?_
    rw[<-hq0]at hqb hR
    have hpl:=FB (s:=s) (i:=p0) (j:=q0) (by omega) (by omega) (by omega)
    refine B5 _ U (A0 U) (by omega) U ⟨(Eng.sub s p0 q0==[]),Eng.sub s a0 b0++Eng.sub s p0 q0,-(len (Eng.sub s p0 q0)),q0,by omega,by omega,by rw[A5];omega,by omega,by omega,?_,rfl⟩
    rw[hR];simp only[beq_iff_eq]
   ·have h3': ¬BK s [46] b0=true:=by simpa[hne]using h3
    rw[if_neg h3']at hR
    have hpe:p0=b0:=by rw[hp0];exact N7 (by simpa using h3')
    exact B5 _ U (A0 U) U U ⟨(Eng.sub s a0 b0==[]),Eng.sub s a0 b0,0,p0,by omega,by omega,by omega,by omega,by omega,by rw[hR,if_neg (by simpa using hne)],rfl⟩
  ·have he:Eng.sub s a0 b0=[]:=by simpa using h2
   rw[if_pos he]at hR
   refine A7 U (A0 U) U (λ h3=>?_) (λ h3=>?_)
   ·simp at h3
   ·exact B5 _ U (A0 U) U U ⟨_,_,0,b0,by omega,by omega,by omega,by omega,by omega,by rw[hR,he];rfl,rfl⟩
 rintro _ ⟨bad,fg,x,q,hq0,hq1,hfg,hx0,hx1,hR1,rfl⟩
 refine lG 6 (λ st=> ∃(bad:Bool) (pw:A1) (sd q:Int),0<=q/\q<=len s/\len pw<=len s/\(∀b∈pw,C5 b=true)/\(sd=1\/sd= -1)/\BW s=(if bad=true\/q<len s then(B2,q,1)else G6 neg fg x pw sd)/\st=⟨[],[(5,.box b5 [I q] 3),(1,.box b1 [.v (str s)] 9),(2,.box b2 [I 0,I 0,.v (str []),.v (str []),.v (.bool false),I 0] 46)],[Z 1 (.bx 1 b1 0),Z 2 (.bx 2 b2 0),Z 5 (.bx 5 b5 0),Z 6 (.v (.func (.func 116) #[] #[.pointer (some ⟨b5,0,none⟩),.pointer (some ⟨b1,0,none⟩)])),Z 7 (.v (.func (.func 118) #[] #[.pointer (some ⟨b5,0,none⟩),.pointer (some ⟨b1,0,none⟩)])),Z 8 (.v (.bool neg)),Z 10 (.v (str fg)),Z 11 (.v (.bool bad)),Z 12 (I x),Z 14 (.v (str pw)),Z 15 (I sd)]⟩) U (A0 U) (by simp only[zb]<;>omega) ?_ ?_
 ·refine L3 (.v (.bool false)) U (A0 U) U U (λ h2=>?_) (λ h2=>?_)
  ·have hbf:bad=false:=by simpa using h2
   subst hbf
   rw[if_neg (by decide)]at hR1
   obtain⟨c0,hc0⟩: ∃c,c=B3 s [101,69] q:=⟨_,rfl⟩
   have hcb:=O8 s [101,69] q (by omega)
   refine BQ [5,1] (λ _=>.v (.bool (BK s [101,69] q))) [] (λ _=>[(5,.box b5 [I c0] 3),(1,.box b1 [.v (str s)] 9)]) U (A0 U) U U call118 U U (A0 U) U (λ w M hS hF=>TW s [101,69] q b5 b1 hS (by omega) (by omega) (by omega)) (λ _=>rfl) (λ _=>by rw[hc0];rfl) λ _ _=>?_
   rw[<-hc0]at hcb
   refine A7 U (A0 U) U (λ h3=>?_) (λ h3=>?_)
   ·have h3':BK s [101,69] q=true:=by simpa using h3
    have hR2:BW s=O9 s neg fg x c0:=by rw[hR1,hc0];unfold FN;rw[if_pos h3']
    obtain⟨c1,hc1⟩: ∃c,c=B3 s [45] c0:=⟨_,rfl⟩
    have hcb1:=O8 s [45] c0 (by omega)
    refine BQ [5,1] (λ _=>.v (.bool (BK s [45] c0))) [] (λ _=>[(5,.box b5 [I c1] 3),(1,.box b1 [.v (str s)] 9)]) U (A0 U) U U call118 U U (A0 U) U (λ w M hS hF=>TW s [45] c0 b5 b1 hS (by omega) (by omega) (by omega)) (λ _=>rfl) (λ _=>by rw[hc1];rfl) λ _ _=>?_
    rw[<-hc1]at hcb1
    refine ES 0 (λ st=> ∃(sd c:Int),0<=c/\c<=len s/\(sd=1\/sd= -1)/\O9 s neg fg x c0=(if Eng.sub s c (AI s c)=[]\/AI s c<len s then(B2,AI s c,1)else G6 neg fg x (Eng.sub s c (AI s c)) sd)/\st=⟨[],[(5,.box b5 [I c] 3),(1,.box b1 [.v (str s)] 9),(2,.box b2 [I 0,I 0,.v (str []),.v (str []),.v (.bool false),I 0] 46)],[Z 1 (.bx 1 b1 0),Z 2 (.bx 2 b2 0),Z 5 (.bx 5 b5 0),Z 6 (.v (.func (.func 116) #[] #[.pointer (some ⟨b5,0,none⟩),.pointer (some ⟨b1,0,none⟩)])),Z 7 (.v (.func (.func 118) #[] #[.pointer (some ⟨b5,0,none⟩),.pointer (some ⟨b1,0,none⟩)])),Z 8 (.v (.bool neg)),Z 10 (.v (str fg)),Z 12 (I x),Z 15 (I sd)]⟩) U (A0 U) U U (λ h4=>?_) (λ h4=>?_) ?_
    ·exact B5 _ U (A0 U) U U ⟨-1,c1,by omega,by omega,.inr U,by unfold O9;dsimp only;rw[h4,<-hc1];rfl,rfl⟩
    ·obtain⟨c2,hc2⟩: ∃c,c=B3 s [43] c1:=⟨_,rfl⟩
     have hcb2:=O8 s [43] c1 (by omega)
     refine BQ [5,1] (λ _=>.v (.bool (BK s [43] c1))) [] (λ _=>[(5,.box b5 [I c2] 3),(1,.box b1 [.v (str s)] 9)]) U (A0 U) U U call118 U U (A0 U) U (λ w M hS hF=>TW s [43] c1 b5 b1 hS (by omega) (by omega) (by omega)) (λ _=>rfl) (λ _=>by rw[hc2];rfl) λ _ _=>?_
     rw[<-hc2]at hcb2
     exact B5 _ U (A0 U) U U ⟨1,c2,by omega,by omega,.inl U,by unfold O9;dsimp only;rw[h4,<-hc1,<-hc2];rfl,rfl⟩
    rintro _ ⟨sd,c,hd0,hd1,hsd,hex,rfl⟩
    obtain⟨q2,hq2⟩: ∃q,q=AI s c:=⟨_,rfl⟩
    have hqb:=KQ s c (by omega) (by omega)
    have hpf:=SN (s:=s) (i:=c) (by omega)
    refine BQ [5,1] (λ _=>.v (str (Eng.sub s c q2))) [] (λ _=>[(5,.box b5 [I q2] 3),(1,.box b1 [.v (str s)] 9)]) U (A0 U) U U call116 U U (A0 U) U (λ w M hS hF=>bU s c b5 b1 hS (by omega) (by omega) (by omega)) (λ _=>by rw[hq2];rfl) (λ _=>by rw[hq2];rfl) λ _ _=>?_
    rw[<-hq2]at hqb hpf hex
    have hpl:=FB (s:=s) (i:=c) (j:=q2) (by omega) (by omega) (by omega)
    exact B5 _ U (A0 U) U U ⟨(Eng.sub s c q2==[]),Eng.sub s c q2,sd,q2,by omega,by omega,by omega,hpf,hsd,by rw[hR2,hex];simp only[beq_iff_eq],rfl⟩
   ·have h3': ¬BK s [101,69] q=true:=by simpa using h3
    have hce:c0=q:=by rw[hc0];exact N7 (by simpa using h3')
    refine B5 _ rfl (A0 rfl) U rfl ⟨false,[],1,c0,by omega,by omega,by rw[len_nil];omega,(λ b hb=>by cases hb),.inl rfl,?_,rfl⟩
    rw[hR1];unfold FN;rw[if_neg h3',<-hc0];simp
  ·have hbt:bad=true:=by simpa using h2
   subst hbt
   refine A7 U (A0 U) U (λ h3=>?_) (λ h3=>?_)
   ·simp at h3
   ·exact B5 _ rfl (A0 rfl) U rfl ⟨true,[],1,q,by omega,by omega,by rw[len_nil];omega,(λ b hb=>by cases hb),.inl rfl,by rw[hR1];simp,rfl⟩
 clear hR1 hq0 hq1
 rintro _ ⟨bad,pw,sd,q,hq0,hq1,hpl,hpf,hsd,hR1,rfl⟩
 have hdz:=gM pw
 refine A7 U (A0 U) (by simp only[zb]<;>omega) (λ h5=>?_) (λ h5=>?_)
 ·have h5':bad=true\/q<len s:=by simp only[zb]at h5;exact h5
  rw[if_pos h5']at hR1
  refine MK [2] 2 (λ _ _ _ _ _ h=>h) U (A0 U) U mix (by decide+kernel) ?_
  refine D2 2 U (A0 U) U U U ?_
  refine CL U (A0 U) U ?_
  refine IP U (A0 U) U U U ?_
  refine A9 hB U U (A0 U) U U (A0 U) λ w M hX=>⟨?_,hX.st.low⟩
  rw[hR1];rfl
 have h5': ¬(bad=true\/q<len s):=by simp only[zb]at h5;rintro(h|h);rw[h]at h5;cases h5.1;omega
 rw[if_neg h5']at hR1
 refine AY (u:=str (AT pw)) U (A0 U) U call47 U U (A0 U) (λ _ w M hX=>V7 pw [48] w (by decide) (TV (by decide))) U ?_
 refine A7 (b:=decide (6<len (AT pw))) U (A0 U) U (λ h6=>?_) (λ h6=>?_)<;>simp only[zb]at h6
 ·refine A9 hB U U (A0 U) U U (A0 U) λ w M hX=>⟨?_,hX.st.low⟩
  rw[hR1];unfold G6;rw[if_pos h6];rfl
 have hat:=uK (l:=AT pw) (gR hpf) (by omega)
 refine AY U (A0 U) (by show len ([48]:A1)+len (AT pw)<=_/\_;rw[A6,len_nil];exact⟨by omega,rfl⟩) call120 U U (A0 U) (λ _ w M hX=>Z2 ([48]++AT pw) (BA (AT pw)) w (by rw[A5,A6,len_nil];omega) hat.1) U ?_
 refine AY rfl (A0 rfl) (by rcases hsd with rfl|rfl<;>omega) call121 rfl rfl (A0 rfl) (λ _ w M hX=>AD9 neg fg (x+sd*BA (AT pw)) w (hg.low hX.st.low) (by omega)) rfl ?_
 refine CU 18 U (A0 U) U zeroValue46 U λ b18=>?_
 refine A9 hB U U (A0 U) U U (A0 U) λ w M hX=>⟨?_,hX.st.low⟩
 rw[hR1];unfold G6;rw[if_neg h6];rfl
end Go.Proofs.YtmjpjbmeamnfpaaGreatDoor
