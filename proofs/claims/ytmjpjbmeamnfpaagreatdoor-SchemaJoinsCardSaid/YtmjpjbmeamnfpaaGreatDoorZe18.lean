/-
  Parts P5 P6 Xq, put together and made short by wip/py/merge.py (mini.py).
-/
import Derived.Test.YtmjpjbmeamnfpaaGreatDoorZe4
import Derived.Laws.BitsLemmas
import Derived.Test.YtmjpjbmeamnfpaaGreatDoorZe3
import Derived.Test.YtmjpjbmeamnfpaaGreatDoorProg
import Derived.Test.YtmjpjbmeamnfpaaGreatDoorZe17
import Derived.Test.YtmjpjbmeamnfpaaGreatDoorZe8
import Derived.Test.YtmjpjbmeamnfpaaGreatDoorZe0
set_option linter.unusedVariables false
set_option linter.unusedSimpArgs false
set_option maxRecDepth 100000
namespace Go.Proofs.YtmjpjbmeamnfpaaGreatDoor
open Go.Eng
theorem Z1(c:Int)(w:World)(h0:0<=c)(h1:c<=255):
  Calls Tryz.prog 262 [(.int .u8 c)].toArray w λ e w'=>e= .returned (.int .u8 (D2 c))/\w'=w:=by
 refine CW.C4 Tryz.func262 U Tryz.ntmps262 (Nat.le_of_ble_eq_true U) λ Q hE=>?_
 refine CW.weaken [0] (L':=[Y 0 (.int .u8 c)]) ?_ U
 refine CW.sr (RL.u (.assign .c) U (RL.nil (CW.id (CW.sr ?_))))
 refine RL.m U U (RL.u (.bin (v:=.int .u8 (D2 c)) (.t U) .c (λ hW w _=>by simp[go_sem,binOp];exact uQ (by omega) (by omega))) U (RL.a U U (RL.nil (CW.id ?_))))
 refine CW.ret (hE.r1 U U ?_)
 exact⟨rfl,rfl⟩
set_option maxHeartbeats 1000000 in
theorem vP(l:A1)(w:World)(hl:len l=4):
  Calls Tryz.prog 236 [(str l),(i64 16),(i64 16)].toArray w λ e w'=> ∃v,e= .returned v/\ ∃x er,(er= .nilIface\/ ∃u p,er= .iface u p)/\NV er=EH l/\(NV er=false->er= .iface 248 (i64 2))/\(EH l=true->x=FM l)/\v= .tuple #[.int .u64 x,er]/\Ext w w':=by
 refine CW.C4 Tryz.func236 U Tryz.ntmps236 (Nat.le_of_ble_eq_true U) λ Q hE=>?_
 have hil:len (ints l)=4:=by rw[GV];exact hl
 have hS:St w nM w nM []:=St.start ⟨λ _ _ _ h=>by cases h⟩
 refine CW.weaken [0,1,2] (L':=[Y 0 (str l),Y 1 (i64 16),Y 2 (i64 16)]) ?_ U
 refine CW.sr (RL.u (.assign .c) U (RL.u (.assign .c) U (RL.nil (CW.id (CW.seq ?_)))))
 refine CW.sr (RL.m U U (RL.u (.SF (.t U) .c) U (RL.nil (CW.id ?_))))
 refine CW.cond rfl ?_ ?_<;>intro hb1<;>try simp only[zb]at hb1
 ·exfalso;rw[hb1]at hl;exact absurd hl (by decide)
 ·refine CW.skip (CW.id (CW.sr (RL.m U U (RL.u (.eql (.t U) .c) U (RL.a U U (RL.nil (CW.id ?_)))))))
  refine CW.sr (RL.m U U (RL.a U U (RL.nil (CW.id (CW.seq ?_)))))
  refine CW.block (CW.sr (RL.m U U (RL.u (.leq .c (.t U)) U (RL.m U U (RL.v (.pos U U) (.move (.t U)) U (RL.v (.pos U U) (.leq (.g U (λ h=>h)) .c) U (RL.u (.and (.t U) (.g U (λ h=>h))) U (RL.a U U (RL.nil (CW.id ?_))))))))))
  refine CW.cond rfl (λ _=>?_) (λ h=>by cases h)
  refine CW.skip (CW.id (CW.seq (CW.sr (RL.m U U (RL.u (.eql (.t U) .c) U (RL.nil (CW.id ?_)))))))
  refine CW.cond rfl (λ h=>by cases h) (λ _=>?_)
  refine CW.sr (RL.m rfl rfl (RL.u (.lss (.t rfl) .c) rfl (RL.m rfl rfl (RL.v (.neg rfl rfl) (.move (.t rfl)) rfl (RL.v (.neg rfl rfl) (.gtr (.g rfl (λ h=>h)) .c) rfl (RL.u (.or (.t rfl) (.g rfl (λ h=>h))) rfl (RL.nil (CW.id (CW.cond rfl (λ h=>by cases h) (λ _=>?_))))))))))
  refine CW.skip (CW.id (CW.sr (RL.u (.assign .c) U (RL.nil (CW.id ?_)))))
  refine CW.seq (CW.sr (RL.m U U (RL.nil (CW.id ?_))))
  refine CW.block (CW.sr (RL.u (.eql (.t U) .c) U (RL.a U U (RL.nil (CW.id ?_)))))
  refine CW.cond rfl (λ h=>by cases h) (λ _=>?_)
  refine CW.sr (RL.u (.eql (.t rfl) .c) rfl (RL.a rfl rfl (RL.nil (CW.id (CW.cond rfl (λ _=>?_) (λ h=>by cases h))))))
  refine CW.region (RL.u (.assign .c) U (RL.nil (CW.id (CW.sr ?_))))
  refine RL.m U U (RL.u (.BU (r:=16) (.t U) Tryz.underlying3 Tryz.underlying192 (λ _=>by exact Eng.wrap_u64 (by omega))) U (RL.u (.bin (v:=.int .u64 65536) .c (.t U) (λ _ w _=>by kernel_rfl)) U (RL.u (.bin (v:=.int .u64 65535) (.t U) .c (λ _ w _=>by kernel_rfl)) U (RL.a U U (RL.nil (CW.id ?_))))))
  refine CW.sr (RL.u (.assign .c) U (RL.nil (CW.id (CW.sr ?_))))
  refine RL.u (.assign .c) U (RL.nil (CW.id ?_))
  refine CW.seq (CW.sr (RL.m U U ?_))
  refine RL.bytes hS (.t U) Tryz.underlying9 Tryz.underlying110 Tryz.underlying5 ((by omega)) U (λ v1 w2 M3 hS4 hle5 hsl6=>?_)
  refine RL.u (.NO hsl6 (.t U) ⟨_,Tryz.underlying110⟩) U (RL.u (.move .c) U ?_)
  refine RL.nil (CW.at [Y 1 (i64 16),Y 8 (.bool false),Y 9 (str l),Y 10 (.int .u64 1152921504606846976),Y 11 (.int .u64 65535),Y 12 (.bool false),Y 13 (.int .u64 0),Y 99 v1,Y 100 (i64 (len (ints l))),Y 101 (i64 0)] U (CW.block ?_))
  refine CW.loop (σ:=Int×Int) (λ(k,n)=>[Y 1 (i64 16),Y 8 (.bool false),Y 9 (str l),Y 10 (.int .u64 1152921504606846976),Y 11 (.int .u64 65535),Y 12 (.bool false),Y 13 (.int .u64 n),Y 99 v1,Y 100 (i64 (len (ints l))),Y 101 (i64 k)]) (λ(k,n) wl=>St w nM wl M3 []/\Sl M3 1 (ints l).length v1 ((ints l).flatMap AU)/\0<=k/\k<=4/\EH (Eng.sub l 0 k)=true/\n=FM (Eng.sub l 0 k)) (λ(k,n)=>(4-k).toNat) ((0,0)) [1,8,9,10,11,12,13,99,100,101] U ?_ ?_
  ·refine⟨hS4,hsl6,?_⟩;exact⟨by omega,by omega,rfl,rfl⟩
  ·rintro⟨k,n⟩ wl ⟨hS7,hsl6,hk0,hk1,hok,hn⟩
   refine CW.sr (RL.u (.lss (.t U) (.t U)) U (RL.nil (CW.id (CW.seq ?_))))
   refine CW.cond rfl ?_ ?_<;>intro hb7<;>try simp only[zb]at hb7
   ·have hq:at' (ints l) k=A2 l k:=ints_at hk0 (by omega)
    have hby:=NK l k
    have hlf:=uS (c:=at' (ints l) k) (by omega) (by omega)
    have hbd:=uV hl hk0 (by omega) hok
    refine CW.skip (CW.id (CW.seq (CW.block (CW.sr ?_))))
    refine RL.u (.SO hsl6 (.t U) (.t U) Tryz.underlying110 Tryz.sizeOf5 (λ _=>by omega)) U (RL.u (.SL (f:=AU) (i:=k) (j:=0) (u:=(.int .u8 (at' (ints l) k))) hS7 BG hsl6 W5 (.t U) Tryz.isAgg5 (λ _=>by omega) U U) U (RL.a U U (RL.nil (CW.id ?_))))
    refine CW.sr (RL.u (.assign .c) U (RL.nil (CW.id (CW.seq ?_))))
    refine CW.block (CW.sr (RL.m U U (RL.u (.eql (.t U) .c) U (RL.m U U (RL.v (.pos U U) (.move (.t U)) U (RL.u (.and (.t U) (.g U (λ h=>h))) U (RL.a U U (RL.nil (CW.id ?_)))))))))
    refine CW.cond U (λ h=>by simp at h) (λ hb8=>?_)
    try simp only[zb,Bool.and_false]at hb8
    refine CW.sr (RL.m U U (RL.u (.leq .c (.t U)) U (RL.m U U (RL.v (.pos U U) (.move (.t U)) U (RL.v (.pos U U) (.leq (.g U (λ h=>h)) .c) U (RL.u (.and (.t U) (.g U (λ h=>h))) U (RL.a U U (RL.nil (CW.id ?_)))))))))
    refine CW.cond rfl ?_ ?_<;>intro hb9<;>try simp only[zb]at hb9
    ·refine CW.region (RL.m U U (RL.u (.SD (r:=(at' (ints l) k)-48) (.t U) .c (λ _=>by exact Eng.wrap_u8 (by omega))) U (RL.a U U (RL.nil (CW.id (CW.seq ?_))))))
     refine CW.sr (RL.m U U (RL.m U U (RL.u (.BU (r:=16) (.t U) Tryz.underlying3 Tryz.underlying5 (λ _=>by exact Eng.wrap_u8 (by omega))) U (RL.u (.geq (.t U) (.t U)) U (RL.nil (CW.id ?_))))))
     refine CW.cond rfl ?_ ?_<;>intro hb10<;>try simp only[zb]at hb10
     ·exfalso;omega
     ·refine CW.skip (CW.id (CW.seq (CW.sr (RL.m U U (RL.m U U (RL.u (.geq (.t U) (.t U)) U (RL.nil (CW.id ?_))))))))
      refine CW.cond rfl ?_ ?_<;>intro hb11<;>try simp only[zb]at hb11
      ·exfalso;omega
      ·refine CW.skip (CW.id (CW.sr (RL.m U U (RL.m U U (RL.u (.BU (r:=16) (.t U) Tryz.underlying3 Tryz.underlying230 (λ _=>by exact Eng.wrap_u64 (by omega))) U (RL.u (.SE (r:=n*16) (.t U) (.t U) (λ _=>by exact Eng.wrap_u64 (by omega))) U (RL.a U U (RL.nil (CW.id ?_)))))))))
       refine CW.sr (RL.m U U (RL.m U U (RL.u (.BU (r:=(at' (ints l) k)-48) (.t U) Tryz.underlying5 Tryz.underlying230 (λ _=>by exact Eng.wrap_u64 (by omega))) U (RL.u (.PN (r:=(n*16)+((at' (ints l) k)-48)) (.t U) (.t U) (λ _=>by exact Eng.wrap_u64 (by omega))) U (RL.a U U (RL.nil (CW.at [Y 1 (i64 16),Y 8 (.bool false),Y 9 (str l),Y 10 (.int .u64 1152921504606846976),Y 11 (.int .u64 65535),Y 12 (.bool false),Y 13 (.int .u64 (n*16)),Y 17 (.int .u64 ((n*16)+((at' (ints l) k)-48))),Y 99 v1,Y 100 (i64 (len (ints l))),Y 101 (i64 k)] U (CW.seq ?_))))))))
       refine CW.sr (RL.m U U (RL.m U U (RL.u (.lss (.t U) (.t U)) U (RL.m U U (RL.v (.neg U U) (.move (.t U)) U (RL.v (.neg U U) (.move (.t U)) U (RL.v (.neg U U) (.gtr (.g U (λ h=>h)) (.g U (λ h=>h))) U (RL.u (.or (.t U) (.g U (λ h=>h))) U (RL.nil (CW.id ?_))))))))))
       refine CW.cond rfl ?_ ?_<;>intro hb12<;>try simp only[zb]at hb12
       ·exfalso;omega
       ·refine CW.skip (CW.id ?_)
        refine CW.region (RL.m U U (RL.a U U (RL.nil (CW.id ?_))))
        refine CW.region (RL.u (.add (.t U) .c (λ _=>by omega)) U (RL.m U U ?_))
        refine RL.nil λ a hs=>Exists.intro ((k+1,(n*16)+((at' (ints l) k)-48))) ⟨hs.BL [1,8,9,10,11,12,13,99,100,101],?_,?_⟩
        ·refine⟨hS7,hsl6,?_⟩
         have hx:F9 (A2 l k)=at' (ints l) k-48:=by rw[<-hq];exact uT hb9
         have hs:=fQ (s:=l) (i:=0) (by omega) hk0 (by omega) hok (by omega)
         exact⟨by omega,by omega,hs.1,by rw[hs.2,hx,<-hn]⟩
        ·show Int.toNat _<Int.toNat _;omega
    ·refine CW.sr (RL.m U U ?_)
     refine RL.FG .none Tryz.call262 (.cons (.t U) .nil) (λ _=>(Z1 (at' (ints l) k) _ (by omega) (by omega))) U ?_
     refine RL.u (.leq .c (.t U)) U (RL.m U U (RL.v (.pos U U) (.move (.t U)) U ?_))
     refine RL.FG (.pos U U) Tryz.call262 (.cons (.g U (λ h=>h)) .nil) (λ hW=>by simp only[zb]at hW;exact(Z1 (at' (ints l) k) _ (by omega) (by omega))) U ?_
     refine RL.v (.pos U U) (.leq (.g U (λ h=>h)) .c) U (RL.u (.and (.t U) (.g U (λ h=>h))) U (RL.a U U ?_))
     refine RL.nil (CW.at [Y 1 (i64 16),Y 8 (.bool false),Y 9 (str l),Y 10 (.int .u64 1152921504606846976),Y 11 (.int .u64 65535),Y 12 (.bool false),Y 13 (.int .u64 n),Y 15 (.int .u8 (at' (ints l) k)),Y 99 v1,Y 100 (i64 (len (ints l))),Y 101 (i64 k),Y 121 (.bool ((decide (97<=(D2 (at' (ints l) k))))&&(decide ((D2 (at' (ints l) k))<=122))))] U ?_)
     refine CW.cond rfl ?_ ?_<;>intro hb13<;>try simp only[zb]at hb13
     ·refine CW.region (RL.m U U ?_)
      refine RL.FG .none Tryz.call262 (.cons (.t U) .nil) (λ _=>(Z1 (at' (ints l) k) _ (by omega) (by omega))) U ?_
      refine RL.u (.SD (r:=(D2 (at' (ints l) k))-97) (.t U) .c (λ _=>by exact Eng.wrap_u8 (by omega))) U (RL.u (.PN (r:=((D2 (at' (ints l) k))-97)+10) (.t U) .c (λ _=>by exact Eng.wrap_u8 (by omega))) U (RL.a U U ?_))
      refine RL.nil (CW.at [Y 1 (i64 16),Y 8 (.bool false),Y 9 (str l),Y 10 (.int .u64 1152921504606846976),Y 11 (.int .u64 65535),Y 12 (.bool false),Y 13 (.int .u64 n),Y 16 (.int .u8 (((D2 (at' (ints l) k))-97)+10)),Y 99 v1,Y 100 (i64 (len (ints l))),Y 101 (i64 k)] U (CW.seq (CW.sr (RL.m U U (RL.m U U (RL.u (.BU (r:=16) (.t U) Tryz.underlying3 Tryz.underlying5 (λ _=>by exact Eng.wrap_u8 (by omega))) U (RL.u (.geq (.t U) (.t U)) U (RL.nil (CW.id ?_)))))))))
      refine CW.cond rfl ?_ ?_<;>intro hb14<;>try simp only[zb]at hb14
      ·refine CW.sr (RL.u (.iface .c Tryz.underlying248 U) U (RL.u (.assign .c) U (RL.a U U (RL.nil (CW.id (CW.ret (hE.r2 U U U ?_)))))))
       have hh:F9 (A2 l k)<0:=by rw[<-hq];have:=(hlf.2.1 (by omega) (by omega) (by omega)).2 (by omega);omega
       have hz:=fR (s:=l) (i:=0) (k:=k) (j:=4) (by omega) (by omega) (by omega) (by omega) hh
       rw[JM l 4 (by omega)]at hz
       exact⟨_,rfl,_,_,.inr ⟨_,_,rfl⟩,by rw[hz];rfl,λ _=>rfl,λ h=>(by rw[hz]at h;cases h),rfl,hS7.low⟩
      ·refine CW.skip (CW.id (CW.seq (CW.sr (RL.m U U (RL.m U U (RL.u (.geq (.t U) (.t U)) U (RL.nil (CW.id ?_))))))))
       refine CW.cond rfl ?_ ?_<;>intro hb15<;>try simp only[zb]at hb15
       ·exfalso;omega
       ·refine CW.skip (CW.id (CW.sr (RL.m U U (RL.m U U (RL.u (.BU (r:=16) (.t U) Tryz.underlying3 Tryz.underlying230 (λ _=>by exact Eng.wrap_u64 (by omega))) U (RL.u (.SE (r:=n*16) (.t U) (.t U) (λ _=>by exact Eng.wrap_u64 (by omega))) U (RL.a U U (RL.nil (CW.id ?_)))))))))
        refine CW.sr (RL.m U U (RL.m U U (RL.u (.BU (r:=((D2 (at' (ints l) k))-97)+10) (.t U) Tryz.underlying5 Tryz.underlying230 (λ _=>by exact Eng.wrap_u64 (by omega))) U (RL.u (.PN (r:=(n*16)+(((D2 (at' (ints l) k))-97)+10)) (.t U) (.t U) (λ _=>by exact Eng.wrap_u64 (by omega))) U (RL.a U U (RL.nil (CW.id (CW.seq ?_))))))))
        refine CW.sr (RL.m U U (RL.m U U (RL.u (.lss (.t U) (.t U)) U (RL.m U U (RL.v (.neg U U) (.move (.t U)) U (RL.v (.neg U U) (.move (.t U)) U (RL.v (.neg U U) (.gtr (.g U (λ h=>h)) (.g U (λ h=>h))) U (RL.u (.or (.t U) (.g U (λ h=>h))) U (RL.nil (CW.id ?_))))))))))
        refine CW.cond rfl ?_ ?_<;>intro hb16<;>try simp only[zb]at hb16
        ·exfalso;omega
        ·refine CW.skip (CW.id ?_)
         refine CW.region (RL.m U U (RL.a U U (RL.nil (CW.id ?_))))
         refine CW.region (RL.u (.add (.t U) .c (λ _=>by omega)) U (RL.m U U ?_))
         refine RL.nil λ a hs=>Exists.intro ((k+1,(n*16)+(((D2 (at' (ints l) k))-97)+10))) ⟨hs.BL [1,8,9,10,11,12,13,99,100,101],?_,?_⟩
         ·refine⟨hS7,hsl6,?_⟩
          have hx:F9 (A2 l k)=D2 (at' (ints l) k)-97+10:=by rw[<-hq];have:=(hlf.2.1 (by omega) (by omega) (by omega)).1 (by omega);omega
          have hs:=fQ (s:=l) (i:=0) (by omega) hk0 (by omega) hok (by omega)
          exact⟨by omega,by omega,hs.1,by rw[hs.2,hx,<-hn]⟩
         ·show Int.toNat _<Int.toNat _;omega
     ·refine CW.sr (RL.u (.iface .c Tryz.underlying248 U) U (RL.u (.assign .c) U (RL.a U U (RL.nil (CW.id (CW.ret (hE.r2 U U U ?_)))))))
      have hh:F9 (A2 l k)<0:=by rw[<-hq];have:=hlf.2.2 (by omega) (by omega);omega
      have hz:=fR (s:=l) (i:=0) (k:=k) (j:=4) (by omega) (by omega) (by omega) (by omega) hh
      rw[JM l 4 (by omega)]at hz
      exact⟨_,rfl,_,_,.inr ⟨_,_,rfl⟩,by rw[hz];rfl,λ _=>rfl,λ h=>(by rw[hz]at h;cases h),rfl,hS7.low⟩
   ·refine CW.exit (CW.at [Y 9 (str l),Y 12 (.bool false),Y 13 (.int .u64 n)] U ?_)
    refine CW.seq (CW.sr (RL.m U U (RL.m U U (RL.v (.pos U U) (.move (.t U)) U ?_))))
    refine RL.FG (v:=(.bool false)) (.pos rfl rfl) Tryz.call263 (.cons (.g rfl (λ h=>by simp_all)) .nil) (λ h=>by cases h) rfl ?_
    refine RL.v (.pos U U) (.not (.g U (λ h=>by simp_all))) U (RL.u (.and (.t U) (.g U (λ h=>by simp_all))) U ?_)
    refine RL.nil (CW.at [Y 13 (.int .u64 n),Y 169 (.bool false)] rfl (CW.cond rfl (λ h=>by cases h) (λ _=>(CW.skip (CW.id (CW.sr ?_))))))
    refine RL.m U U (RL.a U U (RL.u (.assign .c) U (RL.nil (CW.id ?_))))
    refine CW.ret (hE.r2 U U U ?_)
    have hk:k=4:=by omega
    rw[hk,JM l 4 (by omega)]at hok hn
    exact⟨_,rfl,_,_,.inl rfl,by rw[hok];rfl,λ h=>(by cases h),λ _=>hn,rfl,hS7.low⟩
theorem vQ(l:A1)(er:Value)(w:World)(hg:Gl w)(hl:len l=4)(he:er= .iface 248 (i64 2)):Calls Tryz.prog 157 [str [80,97,114,115,101,85,105,110,116],str l,i64 16,i64 16,er].toArray w λ e w'=> ∃v,e= .returned v/\ ∃n,v= .iface 251 (.pointer (some ⟨n,0,none⟩))/\Ext w w':=by
 subst he
 obtain⟨ev,h1,h2⟩:=hg.err
 exact(Tryz.strconv_toError_syntax ⟨⟨[80,97,114,115,101,85,105,110,116]⟩⟩ ⟨⟨l⟩⟩ 16 16 ev w (by show l.length<=_;unfold len at hl;omega) h1 h2).mono λ e w' ⟨n,h,_,_,hb⟩=>⟨_,h,n,rfl,hb⟩
theorem vR(l:A1)(w:World)(hg:Gl w)(hl:len l=4):
  Calls Tryz.prog 196 [(str l),(i64 16),(i64 16)].toArray w λ e w'=> ∃v,e= .returned v/\ ∃x er,(er= .nilIface\/ ∃u p,er= .iface u p)/\NV er=EH l/\(EH l=true->x=FM l)/\v= .tuple #[.int .u64 x,er]/\Ext w w':=by
 refine CW.C4 Tryz.func196 U Tryz.ntmps196 (Nat.le_of_ble_eq_true U) λ Q hE=>?_
 have hS:St w nM w nM []:=St.start ⟨λ _ _ _ h=>by cases h⟩
 refine CW.weaken [0,1,2] (L':=[Y 0 (str l),Y 1 (i64 16),Y 2 (i64 16)]) ?_ U
 refine CW.sr (RL.u (.assign .c) U (RL.u (.assign .c) U (RL.nil (CW.id (CW.sr ?_)))))
 refine RL.m U U (RL.m U U (RL.m U U ?_))
 refine RL.CU Tryz.call236 (.cons (.t U) (.cons (.t U) (.cons (.t U) .nil))) (vP l _ hl) U ?_
 rintro v3 w4 ⟨px1,er2,her2,her2n,her2i,her2v,rfl,hEer2⟩
 have hS5:=hS.ext hEer2
 refine RL.m U U (RL.u (.ex (.t U) U) U (RL.u (.ex (.t U) U) U (RL.a U U (RL.a U U ?_))))
 refine RL.nil (CW.at [Y 0 (str l),Y 1 (i64 16),Y 2 (i64 16),Y 8 (.int .u64 px1),Y 9 er2] U (CW.seq (CW.sr (RL.m U U (RL.u (.SZ (.t U) her2 (by kernel_rfl)) U (RL.nil (CW.id ?_)))))))
 refine CW.cond rfl ?_ ?_<;>intro hb1<;>try simp only[zb]at hb1
 ·refine CW.sr (RL.m U U (RL.m U U (RL.m U U (RL.m U U (RL.m U U ?_)))))
  refine RL.CU Tryz.call157 (.cons .c (.cons (.t U) (.cons (.t U) (.cons (.t U) (.cons (.t U) .nil))))) (vQ l er2 _ (hg.low hS5.low) hl (her2i hb1)) U ?_
  rintro v7 w8 ⟨nn6,rfl,hEnn6⟩
  have hS9:=hS5.ext hEnn6
  refine RL.a U U (RL.a U U ?_)
  refine RL.nil (CW.at [Y 6 (.int .u64 px1),Y 7 (.iface 251 (.pointer (some ⟨nn6,0,none⟩)))] U (CW.ret (hE.r2 U U U ?_)))
  rw[hb1]at her2n
  exact⟨_,rfl,_,_,.inr ⟨_,_,rfl⟩,her2n,her2v,rfl,hS9.low⟩
 ·refine CW.skip (CW.id (CW.sr (RL.m U U (RL.a U U (RL.u (.assign .c) U (RL.nil (CW.id ?_)))))))
  refine CW.ret (hE.r2 U U U ?_)
  rw[hb1]at her2n
  exact⟨_,rfl,_,_,.inl U,her2n,her2v,rfl,hS5.low⟩
theorem vS{l:A1}(h:l.any (λ b=>[43,45,95].contains b)=true):EH l=false:=by
 rw[List.any_eq_true]at h
 obtain⟨b,hb,hc⟩:=h
 unfold EH
 rw[List.all_eq_false]
 refine⟨b,hb,?_⟩
 simp only[List.contains_cons,List.contains_nil,Bool.or_false,Bool.or_eq_true,beq_iff_eq]at hc
 rcases hc with rfl|rfl|rfl<;>decide
theorem gR(s:A1)(w:World)(hg:Gl w)(hb:len s<=1099511627776):
  Calls Tryz.prog 148 [(str s)].toArray w λ e w'=>e= .returned (i64 (BJ s))/\Ext w w':=by
 refine CW.C4 Tryz.func148 U Tryz.ntmps148 (Nat.le_of_ble_eq_true U) λ Q hE=>?_
 have hS:St w nM w nM []:=St.start ⟨λ _ _ _ h=>by cases h⟩
 refine CW.weaken [0] (L':=[Y 0 (str s)]) ?_ U
 refine CW.sr (RL.u (.assign .c) U (RL.nil (CW.id (CW.seq ?_))))
 refine CW.sr (RL.m U U (RL.u (.DD (.t U) Tryz.underlying9) U (RL.u (.lss (.t U) .c) U (RL.m U U (RL.v (.neg U U) (.move (.t U)) U ?_)))))
 refine RL.FG (.neg U U) Tryz.call77 (.cons (.g U (λ h=>h)) (.cons .c .nil)) (λ hW=>by simp only[zb]at hW;exact(MC s [92,117] _)) U ?_
 refine RL.v (.neg U U) (.not (.g U (λ h=>h))) U (RL.u (.or (.t U) (.g U (λ h=>h))) U (RL.m U U (RL.v (.neg U U) (.move (.t U)) U (RL.v (.neg U U) (.L3 (.g U (λ h=>h)) .c .c Tryz.underlying9 (λ hW=>by simp only[zb]at hW;omega)) U ?_))))
 refine RL.DZ hS (.neg U U) Tryz.call195 (.cons (.g U (λ h=>h)) (.cons .c .nil)) (λ hW=>by simp only[zb]at hW;exact(vO (Eng.sub s 2 6) _ (by rw[FX (by omega) (by omega) (by omega)];rfl))) U (λ w1 hS2=>?_)
 refine RL.u (.or (.t U) (.g U (λ h=>h))) U ?_
 refine RL.nil (CW.at [Y 0 (str s),Y 17 (.bool (((decide ((len s)<6))||(!(Lib.hasPrefix s [92,117])))||((Eng.sub s 2 6).any (λ b=>([43,45,95]:A1).contains b))))] U ?_)
 refine CW.cond rfl ?_ ?_<;>intro hb1<;>try simp only[zb]at hb1
 ·refine CW.sr (RL.u (.assign .c) U (RL.nil (CW.id (CW.ret (hE.r1 U U ?_)))))
  have hq:BJ s= -1:=by
   unfold BJ
   split
   ·rfl
   ·rename_i n1;split
    ·rfl
    ·rename_i n2;split
     ·rename_i n3;exfalso;rcases hb1 with(h|h)|h
      ·exact n1 h
      ·exact n2 h
      ·rw[vS h]at n3;cases n3
     ·rfl
  rw[hq];exact⟨rfl,hS2.low⟩
 ·refine CW.skip (CW.id (CW.sr (RL.m U U (RL.u (.L3 (.t U) .c .c Tryz.underlying9 (λ _=>by omega)) U ?_))))
  refine RL.CU Tryz.call196 (.cons (.t U) (.cons .c (.cons .c .nil))) (vR (Eng.sub s 2 6) _ (hg.low hS2.low) (by rw[FX (by omega) (by omega) (by omega)];rfl)) U ?_
  rintro v5 w6 ⟨px3,er4,her4,her4n,her4v,rfl,hEer4⟩
  have hS7:=hS2.ext hEer4
  refine RL.m U U (RL.u (.ex (.t U) U) U (RL.u (.ex (.t U) U) U (RL.a U U (RL.a U U ?_))))
  refine RL.nil (CW.at [Y 3 (.int .u64 px3),Y 4 er4] U (CW.seq (CW.sr (RL.m U U (RL.u (.SZ (.t U) her4 (by kernel_rfl)) U (RL.nil (CW.id ?_)))))))
  refine CW.cond rfl ?_ ?_<;>intro hb2<;>try simp only[zb]at hb2
  ·refine CW.sr (RL.u (.assign .c) U (RL.nil (CW.id (CW.ret (hE.r1 U U ?_)))))
   have hq:BJ s= -1:=by
    unfold BJ
    (repeat' split)<;>first|rfl|(exfalso;rename_i n3;rw[<-her4n,hb2]at n3;cases n3)
   rw[hq];exact⟨rfl,hS7.low⟩
  ·have hk:EH (Eng.sub s 2 6)=true:=by rw[<-her4n];simpa using hb2
   have hx:=her4v hk
   have hxb:=rE (FX (s:=s) (i:=2) (j:=6) (by omega) (by omega) (by omega)) hk
   refine CW.skip (CW.id (CW.sr (RL.m U U (RL.u (.BU (r:=px3) (.t U) Tryz.underlying230 Tryz.underlying3 (λ _=>by exact Eng.wrap_i64 (by omega))) U (RL.a U U (RL.nil (CW.id ?_)))))))
   refine CW.ret (hE.r1 U U ?_)
   have hq:BJ s=px3:=by
    unfold BJ
    rw[if_neg (by omega),if_neg (by rw[hb1.1.2];simp),if_pos hk,hx]
   rw[hq];exact⟨rfl,hS7.low⟩
theorem vT(s:A1)(w:World)(hg:Gl w)(hb:len s<=1099511627776):
  Calls Tryz.prog 111 [(str s)].toArray w λ e w'=>e= .returned (.tuple #[(.int .i32 ((B5 s).1)),(i64 ((B5 s).2))])/\Ext w w':=by
 refine CW.C4 Tryz.func111 U Tryz.ntmps111 (Nat.le_of_ble_eq_true U) λ Q hE=>?_
 have h1:=OI s
 have h2:=OI (A3 s 6)
 have h3:=NK s 1
 have hS:St w nM w nM []:=St.start ⟨λ _ _ _ h=>by cases h⟩
 refine CW.weaken [0] (L':=[Y 0 (str s)]) ?_ U
 refine CW.sr (RL.u (.assign .c) U (RL.u (.assign .c) U (RL.nil (CW.id (CW.seq ?_)))))
 refine CW.sr (RL.m U U (RL.u (.DD (.t U) Tryz.underlying9) U (RL.u (.lss (.t U) .c) U (RL.nil (CW.id ?_)))))
 refine CW.cond rfl ?_ ?_<;>intro hb1<;>try simp only[zb,and_true,true_and,false_or,or_false,not_true_eq_false,not_false_eq_true]at hb1
 ·refine CW.sr (RL.u (.assign .c) U (RL.u (.assign .c) U (RL.nil (CW.id (CW.ret (hE.r2 U U U ?_))))))
  have hq:B5 s=(0,0):=by
   unfold B5
   rw[if_pos (by omega)]
  rw[hq];exact⟨rfl,hS.low⟩
 ·refine CW.skip (CW.id (CW.seq ?_))
  refine CW.PU (σ:=Unit) (λ _=>[Y 0 (str s),Y 4 (.int .i32 (J0 (A2 s 1))),Y 5 (.bool (JW (A2 s 1)))]) (λ _ wm1=>St w nM wm1 nM []/\True) ?_ ?_
  ·refine CW.o3 hS PW (λ w3 hS4=>(RA.two (i:=0) (j:=1) (by decide+kernel) ?_ ?_))
   ·refine RL.CU Tryz.call147 .nil (UM (Rs:=[]) hS4) U ?_
    rintro v6 w7 ⟨mb5,rfl,hS9⟩
    refine RL.nil (RA.next (RA.one (i:=1) (by decide+kernel) (RL.m U U (RL.nil (RA.next (RA.one (i:=2) (by decide+kernel) ?_))))))
    refine RL.u (.E9 (.t U) .c Tryz.underlying9 (λ _=>by omega)) U (RL.nil (RA.next (RA.one (i:=3) (by decide+kernel) ?_)))
    refine RL.u (.SY (k:=.u8) (v:=(.int .i32 (J0 (A2 s 1)))) (q:=JW (A2 s 1)) hS9 BG (i:=0) U (.t U) (.t U) Tryz.underlying198 Tryz.underlying5 Tryz.zeroValue21 (OH _).1 (OH _).2) U (RL.nil (RA.next (RA.one (i:=4) (by decide+kernel) ?_)))
    refine RL.m U U (RL.nil (RA.next (RA.two (i:=5) (j:=6) (by decide+kernel) ?_ ?_)))
    ·refine RL.u (.ex (.t U) U) U (RL.nil (RA.next (RA.two (i:=6) (j:=7) (by decide+kernel) ?_ ?_)))
     ·refine RL.u (.ex (.t U) U) U (RL.nil (RA.next (RA.one (i:=7) (by decide+kernel) ?_)))
      refine RL.a U U (RL.nil (RA.next (RA.one (i:=8) (by decide+kernel) ?_)))
      refine RL.a U U (RL.nil (RA.next (RA.nil (by decide+kernel) ?_)))
      replace hS9:=hS9.erase 0 U
      exact λ a hs=>⟨(),hs.BL [0,4,5],hS9,trivial⟩
     ·refine RL.a U U (RL.nil (RA.next (RA.one (i:=6) (by decide+kernel) ?_)))
      refine RL.u (.ex (.t U) U) U (RL.nil (RA.next (RA.one (i:=8) (by decide+kernel) ?_)))
      refine RL.a U U (RL.nil (RA.next (RA.nil (by decide+kernel) ?_)))
      replace hS9:=hS9.erase 0 U
      exact λ a hs=>⟨(),hs.BL [0,4,5],hS9,trivial⟩
    ·refine RL.u (.ex (.t U) U) U (RL.nil (RA.next (RA.one (i:=5) (by decide+kernel) ?_)))
     refine RL.u (.ex (.t U) U) U (RL.nil (RA.next (RA.one (i:=7) (by decide+kernel) ?_)))
     refine RL.a U U (RL.nil (RA.next (RA.one (i:=8) (by decide+kernel) ?_)))
     refine RL.a U U (RL.nil (RA.next (RA.nil (by decide+kernel) ?_)))
     replace hS9:=hS9.erase 0 U
     exact λ a hs=>⟨(),hs.BL [0,4,5],hS9,trivial⟩
   ·refine RL.m U U (RL.nil (RA.next (RA.two (i:=0) (j:=2) (by decide+kernel) ?_ ?_)))
    ·refine RL.CU Tryz.call147 .nil (UM (Rs:=[]) hS4) U ?_
     rintro v12 w13 ⟨mb11,rfl,hS15⟩
     refine RL.nil (RA.next (RA.one (i:=2) (by decide+kernel) (RL.u (.E9 (.t U) .c Tryz.underlying9 (λ _=>by omega)) U (RL.nil (RA.next (RA.one (i:=3) (by decide+kernel) ?_))))))
     refine RL.u (.SY (k:=.u8) (v:=(.int .i32 (J0 (A2 s 1)))) (q:=JW (A2 s 1)) hS15 BG (i:=0) U (.t U) (.t U) Tryz.underlying198 Tryz.underlying5 Tryz.zeroValue21 (OH _).1 (OH _).2) U (RL.nil (RA.next (RA.one (i:=4) (by decide+kernel) ?_)))
     refine RL.m U U (RL.nil (RA.next (RA.two (i:=5) (j:=6) (by decide+kernel) ?_ ?_)))
     ·refine RL.u (.ex (.t U) U) U (RL.nil (RA.next (RA.two (i:=6) (j:=7) (by decide+kernel) ?_ ?_)))
      ·refine RL.u (.ex (.t U) U) U (RL.nil (RA.next (RA.one (i:=7) (by decide+kernel) ?_)))
       refine RL.a U U (RL.nil (RA.next (RA.one (i:=8) (by decide+kernel) ?_)))
       refine RL.a U U (RL.nil (RA.next (RA.nil (by decide+kernel) ?_)))
       replace hS15:=hS15.erase 0 U
       exact λ a hs=>⟨(),hs.BL [0,4,5],hS15,trivial⟩
      ·refine RL.a U U (RL.nil (RA.next (RA.one (i:=6) (by decide+kernel) ?_)))
       refine RL.u (.ex (.t U) U) U (RL.nil (RA.next (RA.one (i:=8) (by decide+kernel) ?_)))
       refine RL.a U U (RL.nil (RA.next (RA.nil (by decide+kernel) ?_)))
       replace hS15:=hS15.erase 0 U
       exact λ a hs=>⟨(),hs.BL [0,4,5],hS15,trivial⟩
     ·refine RL.u (.ex (.t U) U) U (RL.nil (RA.next (RA.one (i:=5) (by decide+kernel) ?_)))
      refine RL.u (.ex (.t U) U) U (RL.nil (RA.next (RA.one (i:=7) (by decide+kernel) ?_)))
      refine RL.a U U (RL.nil (RA.next (RA.one (i:=8) (by decide+kernel) ?_)))
      refine RL.a U U (RL.nil (RA.next (RA.nil (by decide+kernel) ?_)))
      replace hS15:=hS15.erase 0 U
      exact λ a hs=>⟨(),hs.BL [0,4,5],hS15,trivial⟩
    ·refine RL.u (.E9 (.t U) .c Tryz.underlying9 (λ _=>by omega)) U (RL.nil (RA.next (RA.one (i:=0) (by decide+kernel) ?_)))
     refine RL.CU Tryz.call147 .nil (UM (Rs:=[]) hS4) U ?_
     rintro v18 w19 ⟨mb17,rfl,hS21⟩
     refine RL.nil (RA.next (RA.one (i:=3) (by decide+kernel) (RL.u (.SY (k:=.u8) (v:=(.int .i32 (J0 (A2 s 1)))) (q:=JW (A2 s 1)) hS21 BG (i:=0) U (.t U) (.t U) Tryz.underlying198 Tryz.underlying5 Tryz.zeroValue21 (OH _).1 (OH _).2) U (RL.nil (RA.next (RA.one (i:=4) (by decide+kernel) ?_))))))
     refine RL.m U U (RL.nil (RA.next (RA.two (i:=5) (j:=6) (by decide+kernel) ?_ ?_)))
     ·refine RL.u (.ex (.t U) U) U (RL.nil (RA.next (RA.two (i:=6) (j:=7) (by decide+kernel) ?_ ?_)))
      ·refine RL.u (.ex (.t U) U) U (RL.nil (RA.next (RA.one (i:=7) (by decide+kernel) ?_)))
       refine RL.a U U (RL.nil (RA.next (RA.one (i:=8) (by decide+kernel) ?_)))
       refine RL.a U U (RL.nil (RA.next (RA.nil (by decide+kernel) ?_)))
       replace hS21:=hS21.erase 0 U
       exact λ a hs=>⟨(),hs.BL [0,4,5],hS21,trivial⟩
      ·refine RL.a U U (RL.nil (RA.next (RA.one (i:=6) (by decide+kernel) ?_)))
       refine RL.u (.ex (.t U) U) U (RL.nil (RA.next (RA.one (i:=8) (by decide+kernel) ?_)))
       refine RL.a U U (RL.nil (RA.next (RA.nil (by decide+kernel) ?_)))
       replace hS21:=hS21.erase 0 U
       exact λ a hs=>⟨(),hs.BL [0,4,5],hS21,trivial⟩
     ·refine RL.u (.ex (.t U) U) U (RL.nil (RA.next (RA.one (i:=5) (by decide+kernel) ?_)))
      refine RL.u (.ex (.t U) U) U (RL.nil (RA.next (RA.one (i:=7) (by decide+kernel) ?_)))
      refine RL.a U U (RL.nil (RA.next (RA.one (i:=8) (by decide+kernel) ?_)))
      refine RL.a U U (RL.nil (RA.next (RA.nil (by decide+kernel) ?_)))
      replace hS21:=hS21.erase 0 U
      exact λ a hs=>⟨(),hs.BL [0,4,5],hS21,trivial⟩
  ·rintro _ wm1 ⟨hS2,-⟩
   refine CW.sr (RL.m U U (RL.nil (CW.id ?_)))
   refine CW.cond rfl ?_ ?_<;>intro hb2<;>try simp only[zb,hb1,and_true,true_and,false_or,or_false,not_true_eq_false,not_false_eq_true]at hb2
   ·refine CW.sr (RL.m U U (RL.a U U (RL.u (.assign .c) U (RL.nil (CW.id (CW.ret (hE.r2 U U U ?_)))))))
    have hq:B5 s=(J0 (A2 s 1),2):=by
     unfold B5
     rw[if_neg (by omega),if_pos hb2]
    rw[hq];exact⟨rfl,hS2.low⟩
   ·refine CW.skip (CW.id (CW.sr (RL.m U U ?_)))
    refine RL.DZ hS2 .none Tryz.call148 (.cons (.t U) .nil) (λ _=>(gR s _ (hg.low hS2.low) (by omega))) U (λ w23 hS24=>?_)
    refine RL.a U U ?_
    refine RL.nil (CW.at [Y 0 (str s),Y 6 (i64 (BJ s))] U (CW.seq (CW.block (CW.sr ?_))))
    refine RL.m U U (RL.u (.lss (.t U) .c) U (RL.m U U (RL.v (.neg U U) (.move (.t U)) U (RL.v (.neg U U) (.geq (.g U (λ h=>h)) .c) U (RL.v (.neg U U) (.move (.g U (λ h=>h))) U ?_)))))
    refine RL.v (.GQ U U) (.move (.t U)) U (RL.v (.GQ U U) (.lss (.g U (λ h=>h)) .c) U (RL.v (.neg U U) (.and (.g U (λ h=>h)) (.g U (λ h=>h))) U (RL.u (.or (.t U) (.g U (λ h=>h))) U (RL.a U U (RL.nil (CW.id ?_))))))
    refine CW.cond rfl ?_ ?_<;>intro hb3<;>try simp only[zb,hb1,hb2,and_true,true_and,false_or,or_false,not_true_eq_false,not_false_eq_true]at hb3
    ·refine CW.sr (RL.u (.assign .c) U (RL.u (.assign .c) U (RL.nil (CW.id (CW.ret (hE.r2 U U U ?_))))))
     have hq:B5 s=(0,0):=by
      unfold B5
      rw[if_neg (by omega),if_neg (by rw[hb2];simp),if_pos (by omega)]
     rw[hq];exact⟨rfl,hS24.low⟩
    ·refine CW.sr (RL.m U U (RL.u (.lss (.t U) .c) U (RL.m U U (RL.v (.neg U U) (.move (.t U)) U (RL.v (.neg U U) (.geq (.g U (λ h=>h)) .c) U (RL.u (.or (.t U) (.g U (λ h=>h))) U (RL.a U U (RL.nil (CW.id ?_)))))))))
     refine CW.cond rfl ?_ ?_<;>intro hb4<;>try simp only[zb,hb1,hb2,hb3,and_true,true_and,false_or,or_false,not_true_eq_false,not_false_eq_true]at hb4
     ·refine CW.sr (RL.m U U (RL.u (.BU (r:=BJ s) (.t U) Tryz.underlying3 Tryz.underlying21 (λ _=>by exact Eng.wrap_i32 (by omega))) U (RL.a U U (RL.u (.assign .c) U (RL.nil (CW.id (CW.ret (hE.r2 U U U ?_))))))))
      have hq:B5 s=(BJ s,6):=by
       unfold B5
       rw[if_neg (by omega),if_neg (by rw[hb2];simp),if_neg (by omega),if_pos (by omega)]
      rw[hq];exact⟨rfl,hS24.low⟩
     ·refine CW.skip (CW.id (CW.sr (RL.m U U (RL.u (.JJ (.t U) .c Tryz.underlying9 (λ _=>by omega)) U ?_))))
      refine RL.DZ hS24 .none Tryz.call148 (.cons (.t U) .nil) (λ _=>(gR (Eng.A3 s 6) _ (hg.low hS24.low) (by first|omega|exact Int.le_trans (MP _ _).2 (by omega)))) U (λ w25 hS26=>?_)
      refine RL.a U U ?_
      refine RL.nil (CW.at [Y 6 (i64 (BJ s)),Y 7 (i64 (BJ (Eng.A3 s 6)))] U (CW.seq (CW.sr (RL.m U U (RL.u (.lss (.t U) .c) U (RL.m U U (RL.v (.neg U U) (.move (.t U)) U (RL.v (.neg U U) (.geq (.g U (λ h=>h)) .c) U (RL.u (.or (.t U) (.g U (λ h=>h))) U (RL.nil (CW.id ?_)))))))))))
      refine CW.cond rfl ?_ ?_<;>intro hb5<;>try simp only[zb,hb1,hb2,hb3,hb4,and_true,true_and,false_or,or_false,not_true_eq_false,not_false_eq_true]at hb5
      ·refine CW.sr (RL.u (.assign .c) U (RL.u (.assign .c) U (RL.nil (CW.id (CW.ret (hE.r2 U U U ?_))))))
       have hq:B5 s=(0,0):=by
        unfold B5
        rw[if_neg (by omega),if_neg (by rw[hb2];simp),if_neg (by omega),if_neg (by omega),if_pos (by omega)]
       rw[hq];exact⟨rfl,hS26.low⟩
      ·refine CW.skip (CW.id (CW.sr (RL.m U U (RL.u (.sub (.t U) .c (λ _=>by omega)) U (RL.u (.bin (v:=.int .i64 (((BJ s)-55296)*1024)) (.t U) .c (λ hW w _=>((λ _=>by simp[go_sem,binOp];exact Eng.wrap_i64 (by omega))) hW)) U (RL.u (.add .c (.t U) (λ _=>by omega)) U (RL.m U U (RL.u (.add (.t U) (.t U) (λ _=>by omega)) U (RL.u (.sub (.t U) .c (λ _=>by omega)) U (RL.u (.BU (r:=((65536+(((BJ s)-55296)*1024))+(BJ (Eng.A3 s 6)))-56320) (.t U) Tryz.underlying3 Tryz.underlying21 (λ _=>by exact Eng.wrap_i32 (by omega))) U (RL.a U U (RL.u (.assign .c) U (RL.nil (CW.id ?_))))))))))))))
       refine CW.ret (hE.r2 U U U ?_)
       have hq:B5 s=(((65536+(((BJ s)-55296)*1024))+(BJ (Eng.A3 s 6)))-56320,12):=by
        unfold B5
        rw[if_neg (by omega),if_neg (by rw[hb2];simp),if_neg (by omega),if_neg (by omega),if_neg (by omega)]
       rw[hq];exact⟨rfl,hS26.low⟩
end Go.Proofs.YtmjpjbmeamnfpaaGreatDoor
set_option maxRecDepth 100000
namespace Go.Proofs.YtmjpjbmeamnfpaaGreatDoor
open Go.Eng
theorem gS{l:List Int}{r i n:Int}(h:len l<=4*i)(hn:1<=n):len (l++BQ r)<=4*(i+n):=by
 have:=Lib.encodeRuneZ_length r
 rw[AG]
 have hz:len (BQ r)<=4:=by unfold len BQ;omega
 omega
theorem gT{l:List Int}(r:Int)(h:ints (toStr l)=l):ints (toStr (l++BQ r))=l++BQ r:=by
 have h2:ints (toStr (BQ r))=BQ r:=by
  unfold ints toStr
  rw[List.map_map]
  conv=>rhs;rw[<-List.map_id (BQ r)]
  apply List.map_congr_left
  intro x hx
  have:=Lib.encodeRuneZ_byte r x hx
  simp;omega
 rw[show toStr (l++BQ r)=toStr l++toStr (BQ r)from List.map_append,NU,h,h2]
theorem UO(s:A1)(w:World)(hg:Gl w)(hb:len s<=1099511627776):
  Calls Tryz.prog 78 [(str s)].toArray w λ e w'=>e= .returned (.tuple #[(str ((AM s).1)),(i64 ((AM s).2.1)),(i64 ((AM s).2.2))])/\Ext w w':=by
 refine CW.C4 Tryz.func78 U Tryz.ntmps78 (Nat.le_of_ble_eq_true U) λ Q hE=>?_
 have:=A8 s
 have hS:St w nM w nM []:=St.start ⟨λ _ _ _ h=>by cases h⟩
 refine CW.weaken [0] (L':=[Y 0 (str s)]) ?_ U
 refine CW.sr (RL.u (.assign .c) U (RL.u (.assign .c) U (RL.u (.assign .c) U (RL.nil (CW.id (CW.seq ?_))))))
 refine CW.sr (RL.m U U ?_)
 refine RL.FG .none Tryz.call77 (.cons (.t U) (.cons .c .nil)) (λ _=>(MC s [34] _)) U ?_
 refine RL.u (.not (.t U)) U ?_
 refine RL.nil (CW.at [Y 0 (str s),Y 12 (.bool (!(Lib.hasPrefix s [34])))] U ?_)
 refine CW.cond rfl ?_ ?_<;>intro hb1<;>try simp only[zb]at hb1
 ·refine CW.sr (RL.u (.assign .c) U (RL.u (.assign .c) U (RL.u (.assign .c) U (RL.nil (CW.id (CW.ret (hE.r3 U U U U ?_)))))))
  have hq:AM s=([],0,1):=by unfold AM;rw[if_neg (by rw[hb1];simp)]
  rw[hq];exact⟨rfl,hS.low⟩
 ·refine CW.skip (CW.id (CW.sr ?_))
  refine RL.alloc hS Tryz.zeroValue163 U (λ w1 b2 hS3=>?_)
  have hS4:=hS3.IM 5 1
  refine RL.nil (CW.id (CW.seq (CW.sr (RL.u (.assign .c) U (RL.nil (CW.id ?_))))))
  refine CW.block ?_
  refine CW.loop (σ:=Nat×Int×Value×Value×List Int×Mem) (λ(f,i,av,vl,ll,Ml)=>[Y 0 (str s),Y 5 (.pointer (some ⟨b2,0,none⟩)),Y 6 (i64 i)]) (λ(f,i,av,vl,ll,Ml) wl=>St w nM wl Ml [.own 5 1 vl ll.length (ll.flatMap AU),.box b2 [av,vl] 163]/\1<=i/\(av= .pointer none\/av=BR b2)/\CZ f s i ll=AM s/\len ll<=4*i/\(len s-i).toNat<=f/\ints (toStr ll)=ll) (λ(f,i,av,vl,ll,Ml)=>(len s-i).toNat) ((s.length,1,.pointer none,.slice none 0 0,[],nM)) [0,5,6] U ?_ ?_
  ·refine⟨hS4,?_⟩;exact⟨by omega,.inl U,by unfold AM;rw[if_pos hb1],by decide,by unfold len;omega,rfl⟩
  ·rintro⟨f,i,av,vl,ll,Ml⟩ wl ⟨hS5,h0,hav,hF,hlen,hf,hB⟩
   have hrl:=QN (A3 s i) 0 (by omega)
   have hrb:=TX (A3 s i) 0
   have heb:=rF (A3 s i)
   have hln:=A8 ll
   refine CW.seq (CW.sr (RL.m U U (RL.m U U (RL.u (.DD (.t U) Tryz.underlying9) U (RL.u (.lss (.t U) (.t U)) U (RL.nil (CW.id ?_)))))))
   refine CW.cond rfl ?_ ?_<;>intro hb2<;>try simp only[zb]at hb2
   ·refine CW.skip (CW.id (CW.block (CW.sr (RL.m U U (RL.m U U (RL.u (.JJ (.t U) (.t U) Tryz.underlying9 (λ _=>by omega)) U ?_))))))
    refine RL.DZ hS5 .none Tryz.call106 (.cons (.t U) .nil) (λ _=>(oN (Eng.A3 s i) _ (hg.low hS5.low) (by rw[CN _ _ (by omega) (by omega)];omega))) U (λ w6 hS7=>?_)
    refine RL.m U U (RL.u (.ex (.t U) U) U (RL.u (.ex (.t U) U) U (RL.a U U (RL.a U U ?_))))
    refine RL.nil (CW.at [Y 0 (str s),Y 5 (.pointer (some ⟨b2,0,none⟩)),Y 6 (i64 i),Y 7 (.int .i32 (AQ (Eng.A3 s i) 0)),Y 8 (i64 (runeLen (Eng.A3 s i) 0))] U (CW.sr (RL.m U U (RL.u (.eql (.t U) .c) U (RL.m U U (RL.v (.pos U U) (.move (.t U)) U (RL.v (.pos U U) (.eql (.g U (λ h=>h)) .c) U (RL.u (.and (.t U) (.g U (λ h=>h))) U (RL.a U U (RL.nil (CW.id ?_)))))))))))
    refine CW.seq (CW.block (CW.sr (RL.m U U (RL.u (.eql (.t U) .c) U (RL.a U U (RL.nil (CW.id ?_)))))))
    refine CW.cond rfl ?_ ?_<;>intro hb3<;>try simp only[zb]at hb3
    ·refine CW.sr ?_
     replace hS7:=(hS7.front 0 U U).front 1 U U
     refine RL.CU Tryz.call110 (.cons (.t U) .nil) (Z0 (Rs:=[]) b2 av vl (toStr ll) ll hS7 (by first|assumption|exact Or.inr U|exact Or.inl U) hB.symm) U ?_
     rintro _ w8 ⟨rfl,hE9⟩
     have hS10:St w nM w8 nM []:=(St.start ⟨λ _ _ _ h=>by cases h⟩).ext hE9
     refine RL.m U U (RL.u (.add (.t U) .c (λ _=>by omega)) U (RL.a U U (RL.a U U (RL.u (.assign .c) U ?_))))
     refine RL.nil (CW.at [Y 2 (str (toStr ll)),Y 3 (i64 (i+1)),Y 4 (i64 0)] U (CW.ret (hE.r3 U U U U ?_)))
     have hq:AM s=(toStr ll,i+1,0):=by rw[<-hF,KE hf hb2,if_pos hb3]
     rw[hq];exact⟨rfl,hS10.low⟩
    ·refine CW.sr (RL.m U U (RL.u (.eql (.t U) .c) U (RL.a U U (RL.nil (CW.id ?_)))))
     refine CW.cond rfl ?_ ?_<;>intro hb4<;>try simp only[zb]at hb4
     ·refine CW.sr (RL.m U U (RL.m U U (RL.u (.JJ (.t U) (.t U) Tryz.underlying9 (λ _=>by omega)) U ?_)))
      refine RL.DZ hS7 .none Tryz.call111 (.cons (.t U) .nil) (λ _=>(vT (Eng.A3 s i) _ (hg.low hS7.low) (by first|omega|exact Int.le_trans (MP _ _).2 (by omega)))) U (λ w11 hS12=>?_)
      refine RL.m U U (RL.u (.ex (.t U) U) U (RL.u (.ex (.t U) U) U (RL.a U U (RL.a U U ?_))))
      refine RL.nil (CW.at [Y 0 (str s),Y 5 (.pointer (some ⟨b2,0,none⟩)),Y 6 (i64 i),Y 7 (.int .i32 ((B5 (Eng.A3 s i)).1)),Y 8 (i64 ((B5 (Eng.A3 s i)).2))] U ?_)
      refine CW.region (RL.m U U (RL.u (.eql (.t U) .c) U (RL.a U U (RL.nil (CW.id (CW.seq ?_))))))
      refine CW.sr (RL.m U U (RL.nil (CW.id ?_)))
      refine CW.cond rfl ?_ ?_<;>intro hb5<;>try simp only[zb]at hb5
      ·refine CW.sr (RL.m U U (RL.u (.assign .c) U (RL.a U U (RL.u (.assign .c) U (RL.nil (CW.id (CW.ret (hE.r3 U U U U ?_))))))))
       have hq:AM s=([],i,1):=by rw[<-hF,KE hf hb2,if_neg hb3,if_pos hb4,if_pos hb5]
       rw[hq];exact⟨rfl,hS12.low⟩
      ·refine CW.skip (CW.id (CW.sr (RL.m U U ?_)))
       replace hS12:=(hS12.front 0 U U).front 1 U U
       refine RL.CU Tryz.call112 (.cons (.t U) (.cons (.t U) .nil)) (YZ (Rs:=[]) b2 av ll ((B5 (Eng.A3 s i)).1) vl hS12 (by first|assumption|exact Or.inr U|exact Or.inl U) (by omega) (by omega)) U ?_
       rintro v14 w15 ⟨vb13,M16,rfl,hS17,hle18⟩
       refine RL.nil (CW.at [Y 0 (str s),Y 5 (.pointer (some ⟨b2,0,none⟩)),Y 6 (i64 i),Y 8 (i64 ((B5 (Eng.A3 s i)).2))] U ?_)
       refine CW.region (RL.m U U (RL.m U U (RL.u (.add (.t U) (.t U) (λ _=>by omega)) U (RL.a U U ?_))))
       replace hS17:=hS17.front 1 U U
       refine RL.nil λ a hs=>Exists.intro ((f-1,i+((B5 (Eng.A3 s i)).2),(BR b2),vb13,ll++BQ ((B5 (Eng.A3 s i)).1),M16)) ⟨hs.BL [0,5,6],?_,?_⟩
       ·refine⟨hS17,?_⟩
        exact⟨by omega,.inr U,by rw[<-hF,KE hf hb2,if_neg hb3,if_pos hb4,if_neg hb5],gS hlen (by omega),by omega,gT _ hB⟩
       ·show Int.toNat _<Int.toNat _;first|omega|(have hrl2:=hrl (by rw[CN _ _ (by omega) (by omega)];omega);omega)
     ·refine CW.sr (RL.m U U (RL.u (.lss (.t U) .c) U (RL.a U U (RL.nil (CW.id ?_)))))
      refine CW.cond rfl ?_ ?_<;>intro hb6<;>try simp only[zb]at hb6
      ·refine CW.region (RL.u (.assign .c) U (RL.nil (CW.id (CW.seq ?_))))
       refine CW.sr (RL.m rfl rfl (RL.nil (CW.id (CW.cond rfl (λ _=>?_) (λ h=>by cases h)))))
       refine CW.sr (RL.m U U (RL.u (.assign .c) U (RL.a U U (RL.u (.assign .c) U (RL.nil (CW.id (CW.ret (hE.r3 U U U U ?_))))))))
       have hq:AM s=([],i,1):=by rw[<-hF,KE hf hb2,if_neg hb3,if_neg hb4,if_pos (.inl hb6)]
       rw[hq];exact⟨rfl,hS7.low⟩
      ·refine CW.skip (CW.id (CW.seq (CW.sr (RL.m U U (RL.nil (CW.id ?_))))))
       refine CW.cond rfl ?_ ?_<;>intro hb8<;>try simp only[zb]at hb8
       ·refine CW.sr (RL.m U U (RL.u (.assign .c) U (RL.a U U (RL.u (.assign .c) U (RL.nil (CW.id (CW.ret (hE.r3 U U U U ?_))))))))
        have hq:AM s=([],i,1):=by rw[<-hF,KE hf hb2,if_neg hb3,if_neg hb4,if_pos (.inr hb8)]
        rw[hq];exact⟨rfl,hS7.low⟩
       ·refine CW.skip (CW.id (CW.sr (RL.m U U ?_)))
        replace hS7:=(hS7.front 0 U U).front 1 U U
        refine RL.CU Tryz.call112 (.cons (.t U) (.cons (.t U) .nil)) (YZ (Rs:=[]) b2 av ll (AQ (Eng.A3 s i) 0) vl hS7 (by first|assumption|exact Or.inr U|exact Or.inl U) (by omega) (by omega)) U ?_
        rintro v20 w21 ⟨vb19,M22,rfl,hS23,hle24⟩
        refine RL.nil (CW.at [Y 0 (str s),Y 5 (.pointer (some ⟨b2,0,none⟩)),Y 6 (i64 i),Y 8 (i64 (runeLen (Eng.A3 s i) 0))] U ?_)
        refine CW.region (RL.m U U (RL.m U U (RL.u (.add (.t U) (.t U) (λ _=>by first|omega|(have hrl2:=hrl (by rw[CN _ _ (by omega) (by omega)];omega);rw[CN _ _ (by omega) (by omega)]at hrl2;omega))) U (RL.a U U ?_))))
        replace hS23:=hS23.front 1 U U
        refine RL.nil λ a hs=>Exists.intro ((f-1,i+(runeLen (Eng.A3 s i) 0),(BR b2),vb19,ll++BQ (AQ (Eng.A3 s i) 0),M22)) ⟨hs.BL [0,5,6],?_,?_⟩
        ·refine⟨hS23,?_⟩
         have hrl2:=hrl (by rw[CN _ _ (by omega) (by omega)];omega)
         exact⟨by omega,.inr rfl,by rw[<-hF,KE hf hb2,if_neg hb3,if_neg hb4,if_neg (by rintro(h|⟨h,h2⟩)<;>omega)],gS hlen (by omega),by omega,gT _ hB⟩
        ·show Int.toNat _<Int.toNat _;first|omega|(have hrl2:=hrl (by rw[CN _ _ (by omega) (by omega)];omega);omega)
   ·refine CW.exit (CW.at [Y 0 (str s)] U ?_)
    refine CW.sr (RL.m U U (RL.u (.DD (.t U) Tryz.underlying9) U (RL.u (.assign .c) U (RL.a U U (RL.u (.assign .c) U (RL.nil (CW.id (CW.ret (hE.r3 U U U U ?_)))))))))
    have hq:AM s=([],len s,1):=by rw[<-hF,rG hb2]
    rw[hq];exact⟨rfl,hS5.low⟩
end Go.Proofs.YtmjpjbmeamnfpaaGreatDoor
namespace Go.Eng
open Go.RowKit
theorem gU{c:Cx}{B:Exit->Act->World->Prop}{k k':List Fr}{m:Md}{s s':XS}{x z:Code}{O:Prop}{E:List Ck}(n:Nat)(J:XS->Prop)(h:exec c.T c.N n k m s.F s.H s.L ((0:Int)=0) []=⟨k',.code (.seq x z),s',O,E⟩)(hE:A6 E)(hO:O)(h1:XG c B (.loop J::k') (.code x) s')(h2: ∀s',J s'->XG c B k' (.code z) s'):XG c B k m s:=by
 have:=ET (c:=c) (B:=B) n k m s.F s.H s.L ((0:Int)=0) []
 rw[h]at this
 refine(this hO hE λ a w hs=>c.W.seq ?_).2.2
 have hm: ∀e a w,post c B (.loop J::k') e a w->Exit.then (c.W.wp z (post c B k')) (post c B k') e a w:=λ e a w h=>OC (λ a w ⟨s',hJ,hs⟩=>h2 s' hJ a w hs) (λ _ _ _ h=>h) e a w h
 exact c.W.mono (h1 a w hs) hm
end Go.Eng
