/- Lemmas for the card. -/
import Derived.Test.YtmjpjbmeamnfpaaGreatDoorZf10
set_option linter.unusedVariables false
set_option linter.unusedSimpArgs false
set_option maxRecDepth 100000
namespace Go.Proofs.YtmjpjbmeamnfpaaGreatDoor
open Go.Proofs.Tryz
open Go.Eng
theorem WV{w wv:World}{M0 M:Mem}{Rs:List HO}(hS:St w M0 wv M Rs):
  Calls prog 147 [].toArray wv λ e w'=> ∃v,e= .returned v/\ ∃b,v= .map (some b)/\St w M0 w' M (.raw b (AK .u8 CI 8)::Rs):=by
 refine CW.BH func147 U ntmps147 (Nat.le_of_ble_eq_true U) λ Q hE=>?_
 refine An [] (L':=[]) ?_ U
 refine Ad (Ab (.assign .c) U (Aa (Ac (Ad ?_))))
 refine RL.makeMap .u8 hS U (λ w1 b2 hS3=>?_)
 refine RL.insert (v:=(.int .i32 34)) hS3 (i:=0) U (.t U) .c .c underlying198 underlying5 (l':=[⟨34,(.int .i32 34),0⟩]) U (c':=1) U (Hs':=(.raw b2 (AK .u8 [⟨34,(.int .i32 34),0⟩] 1)::Rs)) U (λ w4 hS5=>?_)
 refine RL.insert (v:=(.int .i32 92)) hS5 (i:=0) U (.t U) .c .c underlying198 underlying5 (l':=[⟨34,(.int .i32 34),0⟩,⟨92,(.int .i32 92),1⟩]) U (c':=2) U (Hs':=(.raw b2 (AK .u8 [⟨34,(.int .i32 34),0⟩,⟨92,(.int .i32 92),1⟩] 2)::Rs)) U (λ w6 hS7=>?_)
 refine RL.insert (v:=(.int .i32 47)) hS7 (i:=0) U (.t U) .c .c underlying198 underlying5 (l':=[⟨34,(.int .i32 34),0⟩,⟨92,(.int .i32 92),1⟩,⟨47,(.int .i32 47),2⟩]) U (c':=3) U (Hs':=(.raw b2 (AK .u8 [⟨34,(.int .i32 34),0⟩,⟨92,(.int .i32 92),1⟩,⟨47,(.int .i32 47),2⟩] 3)::Rs)) U (λ w8 hS9=>?_)
 refine RL.insert (v:=(.int .i32 8)) hS9 (i:=0) U (.t U) .c .c underlying198 underlying5 (l':=[⟨34,(.int .i32 34),0⟩,⟨92,(.int .i32 92),1⟩,⟨47,(.int .i32 47),2⟩,⟨98,(.int .i32 8),3⟩]) U (c':=4) U (Hs':=(.raw b2 (AK .u8 [⟨34,(.int .i32 34),0⟩,⟨92,(.int .i32 92),1⟩,⟨47,(.int .i32 47),2⟩,⟨98,(.int .i32 8),3⟩] 4)::Rs)) U (λ w10 hS11=>?_)
 refine RL.insert (v:=(.int .i32 12)) hS11 (i:=0) U (.t U) .c .c underlying198 underlying5 (l':=[⟨34,(.int .i32 34),0⟩,⟨92,(.int .i32 92),1⟩,⟨47,(.int .i32 47),2⟩,⟨98,(.int .i32 8),3⟩,⟨102,(.int .i32 12),4⟩]) U (c':=5) U (Hs':=(.raw b2 (AK .u8 [⟨34,(.int .i32 34),0⟩,⟨92,(.int .i32 92),1⟩,⟨47,(.int .i32 47),2⟩,⟨98,(.int .i32 8),3⟩,⟨102,(.int .i32 12),4⟩] 5)::Rs)) U (λ w12 hS13=>?_)
 refine RL.insert (v:=(.int .i32 10)) hS13 (i:=0) U (.t U) .c .c underlying198 underlying5 (l':=[⟨34,(.int .i32 34),0⟩,⟨92,(.int .i32 92),1⟩,⟨47,(.int .i32 47),2⟩,⟨98,(.int .i32 8),3⟩,⟨102,(.int .i32 12),4⟩,⟨110,(.int .i32 10),5⟩]) U (c':=6) U (Hs':=(.raw b2 (AK .u8 [⟨34,(.int .i32 34),0⟩,⟨92,(.int .i32 92),1⟩,⟨47,(.int .i32 47),2⟩,⟨98,(.int .i32 8),3⟩,⟨102,(.int .i32 12),4⟩,⟨110,(.int .i32 10),5⟩] 6)::Rs)) U (λ w14 hS15=>?_)
 refine RL.insert (v:=(.int .i32 13)) hS15 (i:=0) U (.t U) .c .c underlying198 underlying5 (l':=[⟨34,(.int .i32 34),0⟩,⟨92,(.int .i32 92),1⟩,⟨47,(.int .i32 47),2⟩,⟨98,(.int .i32 8),3⟩,⟨102,(.int .i32 12),4⟩,⟨110,(.int .i32 10),5⟩,⟨114,(.int .i32 13),6⟩]) U (c':=7) U (Hs':=(.raw b2 (AK .u8 [⟨34,(.int .i32 34),0⟩,⟨92,(.int .i32 92),1⟩,⟨47,(.int .i32 47),2⟩,⟨98,(.int .i32 8),3⟩,⟨102,(.int .i32 12),4⟩,⟨110,(.int .i32 10),5⟩,⟨114,(.int .i32 13),6⟩] 7)::Rs)) U (λ w16 hS17=>?_)
 refine RL.insert (v:=(.int .i32 9)) hS17 (i:=0) U (.t U) .c .c underlying198 underlying5 (l':=[⟨34,(.int .i32 34),0⟩,⟨92,(.int .i32 92),1⟩,⟨47,(.int .i32 47),2⟩,⟨98,(.int .i32 8),3⟩,⟨102,(.int .i32 12),4⟩,⟨110,(.int .i32 10),5⟩,⟨114,(.int .i32 13),6⟩,⟨116,(.int .i32 9),7⟩]) U (c':=8) U (Hs':=(.raw b2 (AK .u8 [⟨34,(.int .i32 34),0⟩,⟨92,(.int .i32 92),1⟩,⟨47,(.int .i32 47),2⟩,⟨98,(.int .i32 8),3⟩,⟨102,(.int .i32 12),4⟩,⟨110,(.int .i32 10),5⟩,⟨114,(.int .i32 13),6⟩,⟨116,(.int .i32 9),7⟩] 8)::Rs)) U (λ w18 hS19=>?_)
 refine Ae U U (Aj U U (Aa (Ac ?_)))
 refine Ah (hE.r1 U U ?_)
 exact⟨_,rfl,_,rfl,hS19⟩
theorem AB4{w wv:World}{M0 M:Mem}{Rs:List HO}(hS:St w M0 wv M Rs):
  Calls prog 281 [].toArray wv λ e w'=> ∃v,e= .returned v/\ ∃b l c,v= .map (some b)/\(∀r,(BP l r).getD (.int .u8 0)= .int .u8 (JY r)/\(BP l r).isSome=JX r)/\St w M0 w' M (.raw b (AK .i32 l c)::Rs):=by
 refine CW.BH func281 U ntmps281 (Nat.le_of_ble_eq_true U) λ Q hE=>?_
 refine An [] (L':=[]) ?_ U
 refine Ad (Ab (.assign .c) U (Aa (Ac (Ad ?_))))
 refine RL.makeMap .i32 hS U (λ w1 b2 hS3=>?_)
 refine Aj U U (Aa (Ac ?_))
 refine Ag (Ad ?_)
 refine RL.DP call147 .nil (WV (Rs:=(.raw b2 (AK .i32 [] 0)::Rs)) hS3) U ?_
 rintro v5 w6 ⟨mb4,rfl,hS8⟩
 refine RL.tE hS8 (i:=0) U (.t U) underlying198 U (λ w10 b11 hS12=>?_)
 refine Aa (CW.at [Y 1 (.map (some b2)),Y 6 (.pointer (some ⟨b11,0,none⟩))] U (Am ?_))
 refine CW.loop (σ:=Array Nat×Nat×List KV×Nat) (λ(seen,c0,l,c)=>[Y 1 (.map (some b2)),Y 6 (.pointer (some ⟨b11,0,none⟩))]) (λ(seen,c0,l,c) wl=>St w M0 wl M (.raw b11 (.mapIter (some mb4) 8 seen c0):: .raw mb4 (AK .u8 CI 8):: .raw b2 (AK .i32 l c)::Rs)/\8<=c0/\Lets seen l) (λ(seen,c0,l,c)=>(CI.filter (λ q=> !seen.contains q.born)).length) ((#[],8,[],0)) [1,6] U ?_ ?_
 ·refine⟨hS12,?_⟩;exact⟨Nat.le_refl _,uW⟩
 ·rintro⟨seen,c0,l,c⟩ wl ⟨hS13,h8,hL⟩
  refine Ad ?_
  refine RL.tF (l:=CI) hS13 (i:=1) (j:=0) U U (.t U) uM h8 U (λ p16 hp17 hns18 w14 hS15=>?_) (λ hall=>?_)
  ·replace hS15:St w M0 w14 M (.raw b11 (.mapIter (some mb4) 8 (seen.push p16.born) 8):: .raw mb4 (AK .u8 CI 8):: .raw b2 (AK .i32 l c)::Rs):=hS15
   refine Ab (.ex (.t U) U) U (Aa (Ac ?_))
   refine Ag (Af rfl (λ _=>?_) (λ h=>by cases h))
   refine Ai (Ac (Am (Ad (Ab (.tJ (k:=.u8) (u:=(.int .i32 (E4 p16))) hS15 AR (i:=1) (j:=0) U U (.t U) hp17 gS (uL _ hp17)) U (Ab (.ex (.t U) U) U (Ab (.ex (.t U) U) U (Aj U U (Aj U U (Aa (Ac ?_))))))))))
   refine CW.region (Ae U U (Ae U U (Ae U U ?_)))
   refine RL.fU (v:=(.int .u8 p16.key)) hS15 (i:=2) U (.t U) (.t U) (.t U) underlying310 underlying21 (l':=(FM l c (E4 p16) (.int .u8 p16.key))) U (c':=(HR l c (E4 p16) (.int .u8 p16.key))) U (Hs':=(.raw b11 (.mapIter (some mb4) 8 (seen.push p16.born) 8):: .raw mb4 (AK .u8 CI 8):: .raw b2 (AK .i32 (FM l c (E4 p16) (.int .u8 p16.key)) (HR l c (E4 p16) (.int .u8 p16.key)))::Rs)) U (λ w19 hS20=>?_)
   refine Aa λ a hs=>Exists.intro (((seen.push p16.born),8,(FM l c (E4 p16) (.int .u8 p16.key)),(HR l c (E4 p16) (.int .u8 p16.key)))) ⟨hs.BC [1,6],?_,?_⟩
   ·refine⟨hS20,?_⟩
    exact⟨by omega,Lets.step hL (by assumption) (by assumption)⟩
   ·exact uS (by assumption) (by assumption)
  ·refine Ab (.ex (.t U) U) U (Aa (Ac ?_))
   refine Ag (Af rfl (λ h=>by cases h) (λ _=>(CW.exit (CW.at [Y 1 (.map (some b2))] rfl (Ad ?_)))))
   refine Ae U U ?_
   refine RL.delete hS13 (i:=2) U (.t U) .c underlying310 underlying21 (l':=(HS l 47)) U (Hs':=(.raw b11 (.mapIter (some mb4) 8 seen c0):: .raw mb4 (AK .u8 CI 8):: .raw b2 (AK .i32 (HS l 47) c)::Rs)) U (λ w21 hS22=>(Aa (Ac ?_)))
   refine Ad (Ae U U (Aj U U (Aa (Ac (Ah (hE.r1 U U ?_))))))
   replace hS22:=(hS22.erase 1 U).erase 0 U
   exact⟨_,rfl,_,_,_,rfl,uR hL hall,hS22⟩
theorem bS{w wv:World}{M0 M:Mem}{Rs:List HO}(b:Nat)(a v:Value)(bs:A1)(l:List Int)(hS:St w M0 wv M (.box b [a,v] 163:: .own 5 1 v (l).length ((l).flatMap AQ)::Rs))(ha:a= .pointer none\/a=CC b)(hl:l=ints bs):
  Calls prog 110 [.pointer (some ⟨b,0,none⟩)].toArray wv λ e w'=> ∃v,e= .returned v/\v=str bs/\Ext w w':=by
 subst hl
 have hb:=hS.obj (i:=0) U
 have ho:=(hS.obj (i:=1) U).1
 have hne:v.ownBlock≠some b:=by
  have:=hS.apart
  rw[List.pairwise_cons]at this
  exact this.1 (HO.own 5 1 v (ints bs).length ((ints bs).flatMap AQ)) (by simp) b U
 have e1:(ints bs).flatMap AQ=Lib.byteCells bs:=by rw[SJ];unfold ints;rw[List.map_map];rfl
 have e2:(ints bs).length=(Lib.byteCells bs).length:=by rw[<-e1,DQ AQ 1 YV,Nat.mul_one]
 rw[e1,e2]at ho
 have hB: ∀a',a=a'->Lib.BuilderAt 163 5 w.heap.size b a' (Lib.byteCells bs) wv:=λ a' h=>⟨hb.1,v,h▸hb.2.1,ho,hne⟩
 refine(Tryz.Builder_String_any w.heap.size b bs wv ?_ hS.size).mono λ e w' ⟨he,hw⟩=>⟨_,he,rfl,hS.low.trans hw⟩
 rcases ha with h|h
 ·exact .inl (hB _ h)
 ·exact .inr (hB _ h)
theorem AB5(w:World):
  Calls prog 314 [(i64 16)].toArray w λ e w'=>e= .returned (.bool true)/\w'=w:=by
 refine CW.BH func314 U ntmps314 (Nat.le_of_ble_eq_true U) λ Q hE=>?_
 refine An [0] (L':=[Y 0 (i64 16)]) ?_ U
 refine Ad (Ab (.assign .c) U (Aa (Ac (Ad ?_))))
 refine Ae U U (Ae U U (Ab (.bin (v:=.int .i64 15) (.t U) .c (λ _ w _=>by kernel_rfl)) U (Ab (.bin (v:=.int .i64 0) (.t U) (.t U) (λ _ w _=>by kernel_rfl)) U (Ab (.eql (.t U) .c) U (Aj U U (Aa (Ac ?_)))))))
 refine Ah (hE.r1 U U ?_)
 exact⟨rfl,rfl⟩
theorem AB6(w:World)(hg:Gl w):
  Calls prog 320 [(.int .u64 16)].toArray w λ e w'=>e= .returned (i64 4)/\w'=w:=by
 refine CW.BH func320 U ntmps320 (Nat.le_of_ble_eq_true U) λ Q hE=>?_
 refine An [0] (L':=[Y 0 (.int .u64 16)]) ?_ U
 refine Ad (Ab (.assign .c) U (Aa (Ac (Ag ?_))))
 refine Ad (Ae rfl rfl (Ab (.eql (.t rfl) .c) rfl (Aa (Ac (Af rfl (λ h=>by cases h) (λ _=>?_))))))
 refine Ai (Ac (Ad (Ae U U (Ae U U (Ab (.eT (r:=18446744073709551600) (.t U) (λ _=>by decide)) U (Ab (.bin (v:=.int .u64 16) (.t U) (.t U) (λ _ w _=>by kernel_rfl)) U (Ab (.bin (v:=.int .u64 4573923408821661840) (.t U) .c (λ _ w _=>by kernel_rfl)) U (Ab (.bin (v:=.int .u64 15) (.t U) .c (λ _ w _=>by kernel_rfl)) U (Ab (.V6 15 .gl (.t U) underlying340 sizeOf5 (λ _=>rfl) U) U (Ab (.YJ (v:=(.int .u8 4)) (.t U) isAgg5 (λ _ w0 h0=>h0▸hg.deb)) U (Ab (.BD (r:=4) (.t U) underlying5 underlying3 (λ _=>by exact Eng.wrap_i64 (by omega))) U (Aj U U (Aa (Ac ?_))))))))))))))
 refine Ah (hE.r1 U U ?_)
 exact⟨rfl,rfl⟩
theorem AB7(w:World)(hg:Gl w):
  Calls prog 315 [(.int .u64 16)].toArray w λ e w'=>e= .returned (i64 4)/\w'=w:=by
 refine CW.BH func315 U ntmps315 (Nat.le_of_ble_eq_true U) λ Q hE=>?_
 refine An [0] (L':=[Y 0 (.int .u64 16)]) ?_ U
 refine Ad (Ab (.assign .c) U (Aa (Ac (Ag ?_))))
 refine CW.sF (λ hb1=>?_) (λ hb1=>?_)
 ·try simp only[zb]at hb1
  first|done|cases hb1
 ·try simp only[zb]at hb1
  refine Ai (Ac (Ad (Ae U U ?_)))
  refine RL.DC .none call320 (.cons (.t U) .nil) (λ _=>(AB6 _ hg)) U ?_
  refine Aj U U ?_
  refine Aa (CW.at [Y 2 (i64 4)] U (Ah (hE.r1 U U ?_)))
  exact⟨rfl,rfl⟩
theorem AB8(r:Int)(q:Bool)(w:World)(hg:Gl w)(h:0<=r/\r<32)(hq:q=false):
  Calls prog 310 [(.slice none 0 0),(.int .u64 (r+256)),(i64 16),(.bool q),(.bool false)].toArray w λ e w'=>e= .returned (.tuple #[(.slice none 0 0),(str ([49,(FO (r/16)).toNat.toUInt8,(FO (r%16)).toNat.toUInt8]))])/\Ext w w':=by
 refine CW.BH func310 U ntmps310 (Nat.le_of_ble_eq_true U) λ Q hE=>?_
 have hS:St w nM w nM []:=Ak ⟨λ _ _ _ h=>by cases h⟩
 refine An [0,1,2,3,4] (L':=[Y 0 (.slice none 0 0),Y 1 (.int .u64 (r+256)),Y 2 (i64 16),Y 3 (.bool q),Y 4 (.bool false)]) ?_ U
 refine Ad (Ab (.assign .c) U (Ab (.assign .c) U (Aa (Ac (Ag ?_)))))
 refine Ad (Ae U U (Ab (.lss (.t U) .c) U (Ae U U (RL.v (.neg U U) (.move (.t U)) U (RL.v (.neg U U) (.eql (.g U (λ h=>h)) .c) U (Ab (.or (.t U) (.g U (λ h=>h))) U (Ae U U (RL.v (.neg U U) (.move (.t U)) U (RL.v (.neg U U) (.gtr (.g U (λ h=>h)) .c) U (Ab (.or (.t U) (.g U (λ h=>h))) U (Aa (Ac ?_))))))))))))
 refine Af rfl (λ h=>by cases h) (λ _=>?_)
 refine Ai (Ac (Ad ?_))
 refine RL.alloc hS zeroValue331 U (λ w1 b2 hS3=>(Aa (Ac ?_)))
 refine Ad (Ab (.assign .c) U (Aa (Ac (Ag ?_))))
 refine Ad (Ae U U (Aa (Ac ?_)))
 refine Af rfl ?_ ?_<;>intro hb2<;>try simp only[zb]at hb2
 ·exfalso;rw[hq]at hb2;first|done|cases hb2
 ·refine Ai (Ac (Ag (Ad (Ae U U ?_))))
  refine RL.DC .none call314 (.cons (.t U) .nil) (λ _=>(AB5 _)) U ?_
  refine Aa (CW.at [Y 0 (.slice none 0 0),Y 1 (.int .u64 (r+256)),Y 2 (i64 16),Y 3 (.bool q),Y 4 (.bool false),Y 10 (.slice none 0 0),Y 11 (str []),Y 12 (.pointer (some ⟨b2,0,none⟩)),Y 13 (i64 65),Y 34 (.bool true)] rfl (Af rfl (λ _=>?_) (λ h=>by cases h)))
  refine Ad (Ae U U (Ab (.BD (r:=16) (.t U) underlying3 underlying192 (λ _=>by exact Eng.wrap_u64 (by omega))) U ?_))
  refine RL.DC .none call315 (.cons (.t U) .nil) (λ _=>(AB7 _ (hg.low hS3.low))) U ?_
  refine Ab (.BD (r:=4) (.t U) underlying3 underlying192 (λ _=>by exact Eng.wrap_u64 (by omega))) U (Aj U U ?_)
  refine Aa (CW.at [Y 0 (.slice none 0 0),Y 1 (.int .u64 (r+256)),Y 2 (i64 16),Y 3 (.bool q),Y 4 (.bool false),Y 10 (.slice none 0 0),Y 11 (str []),Y 12 (.pointer (some ⟨b2,0,none⟩)),Y 13 (i64 65),Y 14 (.int .u64 4)] U (Ad (Ae U U (Ab (.BD (r:=16) (.t U) underlying3 underlying230 (λ _=>by exact Eng.wrap_u64 (by omega))) U (Aj U U (Aa (Ac ?_)))))))
  refine Ad (Ae U U (Ab (.BD (r:=16) (.t U) underlying3 underlying192 (λ _=>by exact Eng.wrap_u64 (by omega))) U (Ab (.bin (v:=.int .u64 15) (.t U) .c (λ _ w _=>by kernel_rfl)) U (Aj U U (Aa (Ac (Ag ?_)))))))
  refine Am ?_
  refine CW.fT 3 ?_
  refine Ag (Ad (Ae U U (Ae U U (Ab (.geq (.t U) (.t U)) U (Aa (Ac ?_))))))
  refine Af rfl ?_ ?_<;>intro hb4<;>try simp only[zb]at hb4
  ·refine Ai (Ac (Am (Ad (Ae U U (Ab (.bin (v:=.int .i64 64) (.t U) .c (λ _ w _=>by kernel_rfl)) U (Aj U U (Aa (Ac ?_))))))))
   refine Ad (Ae U U (Ae U U (Ae U U (Ab (.bin (v:=.int .u64 ((r+256)%16)) (.t U) (.t U) (λ hW w _=>by simp[go_sem,binOp];first|exact WU (r+256) (by omega) (by omega)|(have hB:=WU (r+256) (by omega) (by omega);omega))) U (Ab (.C2 .c (.t U) underlying9 (λ _=>by first|omega|(simp only[A6,len_nil];omega))) U (Ab (.V6 64 (.t U) (.t U) underlying331 sizeOf5 (λ _=>rfl) U) U ?_))))))
   refine RL.st hS3 (i:=0) U (.t U) (.t U) sizeOf5 U U U U U (λ w4 hS5=>(Aa (Ac ?_)))
   refine CW.region (Ae U U (Ae U U (Ab (.bin (v:=.int .u64 ((r+256)/16)) (.t U) (.t U) (λ _ w _=>by simp[go_sem,binOp])) U (Aj U U (Aa (CW.round [0,1,3,4,10,11,12,13,14,15,16] (L':=[Y 0 (.slice none 0 0),Y 1 (.int .u64 ((r+256)/16)),Y 3 (.bool q),Y 4 (.bool false),Y 10 (.slice none 0 0),Y 11 (str []),Y 12 (.pointer (some ⟨b2,0,none⟩)),Y 13 (i64 64),Y 14 (.int .u64 4),Y 15 (.int .u64 16),Y 16 (.int .u64 15)]) U (Ag ?_)))))))
   refine Ad (Ae U U (Ae U U (Ab (.geq (.t U) (.t U)) U (Aa (Ac ?_)))))
   refine Af rfl ?_ ?_<;>intro hb5<;>try simp only[zb]at hb5
   ·refine Ai (Ac (Am (Ad (Ae U U (Ab (.bin (v:=.int .i64 63) (.t U) .c (λ _ w _=>by kernel_rfl)) U (Aj U U (Aa (Ac ?_))))))))
    refine Ad (Ae U U (Ae U U (Ae U U (Ab (.bin (v:=.int .u64 (((r+256)/16)%16)) (.t U) (.t U) (λ hW w _=>by simp[go_sem,binOp];first|exact WU ((r+256)/16) (by omega) (by omega)|(have hB:=WU ((r+256)/16) (by omega) (by omega);omega))) U (Ab (.C2 .c (.t U) underlying9 (λ _=>by first|omega|(simp only[A6,len_nil];omega))) U (Ab (.V6 63 (.t U) (.t U) underlying331 sizeOf5 (λ _=>rfl) U) U ?_))))))
    refine RL.st hS5 (i:=0) U (.t U) (.t U) sizeOf5 U U U U U (λ w6 hS7=>(Aa (Ac ?_)))
    refine CW.region (Ae U U (Ae U U (Ab (.bin (v:=.int .u64 (((r+256)/16)/16)) (.t U) (.t U) (λ _ w _=>by simp[go_sem,binOp])) U (Aj U U (Aa (CW.round [0,1,3,4,10,11,12,13,14,15,16] (L':=[Y 0 (.slice none 0 0),Y 1 (.int .u64 (((r+256)/16)/16)),Y 3 (.bool q),Y 4 (.bool false),Y 10 (.slice none 0 0),Y 11 (str []),Y 12 (.pointer (some ⟨b2,0,none⟩)),Y 13 (i64 63),Y 14 (.int .u64 4),Y 15 (.int .u64 16),Y 16 (.int .u64 15)]) U (Ag ?_)))))))
    refine Ad (Ae U U (Ae U U (Ab (.geq (.t U) (.t U)) U (Aa (Ac ?_)))))
    refine Af rfl ?_ ?_<;>intro hb6<;>try simp only[zb]at hb6
    ·exfalso;omega
    ·refine CW.exit (CW.at [Y 0 (.slice none 0 0),Y 1 (.int .u64 (((r+256)/16)/16)),Y 3 (.bool q),Y 4 (.bool false),Y 10 (.slice none 0 0),Y 11 (str []),Y 12 (.pointer (some ⟨b2,0,none⟩)),Y 13 (i64 63)] U ?_)
     refine Ad (Ae U U (Ab (.bin (v:=.int .i64 62) (.t U) .c (λ _ w _=>by kernel_rfl)) U (Aj U U (Aa (Ac ?_)))))
     refine CW.region (Ae U U (Ae U U (Ab (.C2 .c (.t U) underlying9 (λ _=>by first|omega|(simp only[A6,len_nil];omega))) U (Ab (.V6 62 (.t U) (.t U) underlying331 sizeOf5 (λ _=>rfl) U) U ?_))))
     refine RL.st hS7 (i:=0) U (.t U) (.t U) sizeOf5 U U U U U (λ w8 hS9=>(Aa (Ac ?_)))
     refine Ag (Ad (Ae U U (Aa (Ac ?_))))
     refine Af rfl ?_ ?_<;>intro hb7<;>try simp only[zb]at hb7
     ·exfalso;rw[hq]at hb7;first|done|cases hb7
     ·refine Ai (Ac (Ag (Ad (Ae U U (Aa (Ac ?_))))))
      refine Af rfl (λ h=>by cases h) (λ _=>?_)
      refine Ai (Ac (Ad (Ae U U (Ab (.tV 62 3 (.t U) (.t U) underlying331 sizeOf5 (λ _=>rfl) U U) U (Ab (.tW (l:=[A2 [48,49,50,51,52,53,54,55,56,57,97,98,99,100,101,102,103,104,105,106,107,108,109,110,111,112,113,114,115,116,117,118,119,120,121,122] (((r+256)/16)/16),A2 [48,49,50,51,52,53,54,55,56,57,97,98,99,100,101,102,103,104,105,106,107,108,109,110,111,112,113,114,115,116,117,118,119,120,121,122] (((r+256)/16)%16),A2 [48,49,50,51,52,53,54,55,56,57,97,98,99,100,101,102,103,104,105,106,107,108,109,110,111,112,113,114,115,116,117,118,119,120,121,122] ((r+256)%16)]) hS9 AR (i:=0) U (.t U) U U underlying110 underlying5 underlying9) U (Aj U U (Aa (Ac ?_))))))))
      refine Ah (hE.r2 U U U ?_)
      have d1:=lA (n:=(r+256)%16) (by omega) (by omega)
      have d2:=lA (n:=(r+256)/16%16) (by omega) (by omega)
      have d3:(r+256)/16/16=1:=by omega
      have d4:(r+256)%16=r%16:=by omega
      have d5:(r+256)/16%16=r/16:=by omega
      refine⟨congrArg (λ z=>Ending.returned (.tuple #[.slice none 0 0,str z])) ?_,hS9.low⟩
      rw[d3,d2,d1,d4,d5];rfl
   ·exfalso;omega
  ·exfalso;omega
theorem AB9(r:Int)(w:World)(hg:Gl w)(h:0<=r/\r<32):
  Calls prog 297 [(i64 (r+256)),(i64 16)].toArray w λ e w'=>e= .returned (str ([49,(FO (r/16)).toNat.toUInt8,(FO (r%16)).toNat.toUInt8]))/\Ext w w':=by
 refine CW.BH func297 U ntmps297 (Nat.le_of_ble_eq_true U) λ Q hE=>?_
 have hS:St w nM w nM []:=Ak ⟨λ _ _ _ h=>by cases h⟩
 refine An [0,1] (L':=[Y 0 (i64 (r+256)),Y 1 (i64 16)]) ?_ U
 refine Ad (Ab (.assign .c) U (Aa (Ac (Ag ?_))))
 refine Ad (Ae rfl rfl (Ab (.eql (.t rfl) .c) rfl (Aa (Ac (Af rfl (λ h=>by cases h) (λ _=>?_))))))
 refine Ai (Ac (Ad (Ae U U (Ab (.BD (r:=r+256) (.t U) underlying2 underlying230 (λ _=>by exact Eng.wrap_u64 (by omega))) U (Ae U U (Ae U U (Ab (.lss (.t U) .c) U ?_)))))))
 refine RL.D6 hS .none call310 (.cons .c (.cons (.t U) (.cons (.t U) (.cons (.t U) (.cons .c .nil))))) (λ _=>(AB8 r (decide ((r+256)<0)) _ (hg.low hS.low) h (by simp;omega))) U (λ w1 hS2=>?_)
 refine Ae U U (Ab (.ex (.t U) U) U (Ab (.ex (.t U) U) U (Aj U U (Aj U U ?_))))
 refine Aa (CW.at [Y 9 (str ([49,(FO (r/16)).toNat.toUInt8,(FO (r%16)).toNat.toUInt8]))] U (Ad (Ae U U (Aj U U (Aa (Ac ?_))))))
 refine Ah (hE.r1 U U ?_)
 exact⟨rfl,hS2.low⟩
theorem AC0(r:Int)(w:World)(hg:Gl w)(h:0<=r/\r<32):
  Calls prog 283 [(i64 (r+256)),(i64 16)].toArray w λ e w'=>e= .returned (str ([49,(FO (r/16)).toNat.toUInt8,(FO (r%16)).toNat.toUInt8]))/\Ext w w':=by
 refine CW.BH func283 U ntmps283 (Nat.le_of_ble_eq_true U) λ Q hE=>?_
 have hS:St w nM w nM []:=Ak ⟨λ _ _ _ h=>by cases h⟩
 refine An [0,1] (L':=[Y 0 (i64 (r+256)),Y 1 (i64 16)]) ?_ U
 refine Ad (Ab (.assign .c) U (Aa (Ac (Ad ?_))))
 refine Ae U U (Ae U U ?_)
 refine RL.D6 hS .none call297 (.cons (.t U) (.cons (.t U) .nil)) (λ _=>(AB9 r _ (hg.low hS.low) h)) U (λ w1 hS2=>?_)
 refine Aj U U ?_
 refine Aa (CW.at [Y 4 (str ([49,(FO (r/16)).toNat.toUInt8,(FO (r%16)).toNat.toUInt8]))] U (Ah (hE.r1 U U ?_)))
 exact⟨rfl,hS2.low⟩
theorem lB(s:A1)(w:World)(hg:Gl w)(hb:len s<=1099511627776):
  Calls prog 255 [(str s)].toArray w λ e w'=>e= .returned (str (AE s))/\Ext w w':=by
 refine CW.BH func255 U ntmps255 (Nat.le_of_ble_eq_true U) λ Q hE=>?_
 have:=A4 s
 have hS:St w nM w nM []:=Ak ⟨λ _ _ _ h=>by cases h⟩
 refine An [0] (L':=[Y 0 (str s)]) ?_ U
 refine Ad (Ab (.assign .c) U (Aa (Ac (Ad ?_))))
 refine RL.alloc hS zeroValue163 U (λ w1 b2 hS3=>?_)
 have hS4:=hS3.KN 5 1
 refine Aa (Ac (Ad ?_))
 refine RL.DP call281 .nil (AB4 (Rs:=[.own 5 1 (.slice none 0 0) (([]:List Int)).length ((([]:List Int)).flatMap AQ),.box b2 [(.pointer none),(.slice none 0 0)] 163]) hS4) U ?_
 rintro v8 w9 ⟨mb5,ml6,mc7,rfl,hlet_mb5,hS11⟩
 refine Aj U U ?_
 refine Aa (CW.at [Y 0 (str s),Y 3 (.pointer (some ⟨b2,0,none⟩)),Y 4 (.map (some mb5))] U (Ad ?_))
 replace hS11:=(hS11.front 1 U U).front 2 U U
 refine RL.DP call282 (.cons (.t U) (.cons .c .nil)) (WT (Rs:=[.raw mb5 (AK .i32 ml6 mc7)]) b2 ((.pointer none)) (([]:List Int)) 34 (.slice none 0 0) hS11 (by first|assumption|exact Or.inr U|exact Or.inl U) (by first|assumption|omega|(simp only[A5,A6,len_nil,IC]at*;omega)) (by first|omega|(simp only[O7,A5,A6,len_nil,IC];omega))) U ?_
 rintro v14 w15 ⟨vb13,M16,rfl,hS17,hle18⟩
 refine Aa (CW.at [Y 0 (str s),Y 3 (.pointer (some ⟨b2,0,none⟩)),Y 4 (.map (some mb5))] U (Ag (Ad (Ae U U ?_))))
 refine RL.UW (s:=s) hS17 (.t U) underlying9 U (λ w19 b20 hS21=>?_)
 refine Aa (Ac (Am ?_))
 refine CW.loop (σ:=Int×Value×List Int×Mem) (λ(p,vl,ll,Ml)=>[Y 3 (.pointer (some ⟨b2,0,none⟩)),Y 4 (.map (some mb5)),Y 12 (.pointer (some ⟨b20,0,none⟩))]) (λ(p,vl,ll,Ml) wl=>St w nM wl Ml [.raw b20 (.stringIter ⟨⟨s⟩⟩ ((p:Int)).toNat),.box b2 [(CC b2),vl] 163,.own 5 1 vl ll.length (ll.flatMap AQ),.raw mb5 (AK .i32 ml6 mc7)]/\0<=p/\p<=len s/\ll++ints (FD s p)=ints (34::FD s 0)/\len ll<=6*p+1) (λ(p,vl,ll,Ml)=>(len s-p).toNat) ((0,vb13,(([]:List Int))++[34],M16)) [3,4,12] U ?_ ?_
 ·refine⟨hS21,?_⟩;exact⟨by omega,by omega,rfl,by decide⟩
 ·rintro⟨p,vl,ll,Ml⟩ wl ⟨hS22,h0,h1,hF,hlen⟩
  have hrl:=SP s p h0
  have hrb:=VB s p
  have hlv:=gW (AO s p)
  have hln:=A4 ll
  have hzz:=Lib.encodeRuneZ_length (AO s p)
  have hz:len (CB (AO s p))<=4:=by unfold len CB;omega
  refine Ad ?_
  refine RL.UX (s:=s) (p:=p) hS22 (i:=0) U (.t U) (by omega) U (λ hlt w23 hS24=>?_) (λ hge=>?_)
  ·replace hS24:St w nM w23 Ml [.raw b20 (.stringIter ⟨⟨s⟩⟩ ((p+runeLen s p:Int)).toNat),.box b2 [(CC b2),vl] 163,.own 5 1 vl ll.length (ll.flatMap AQ),.raw mb5 (AK .i32 ml6 mc7)]:=hS24
   refine Ab (.ex (.t U) U) U (Aa (Ac ?_))
   refine Ag (Af rfl (λ _=>?_) (λ h=>by cases h))
   refine Ai (Ac (Am (Ad (Ab (.ex (.t U) U) U (Aj U U (Aa (Ac ?_)))))))
   refine Ad (Ae U U (Ae U U (Ab (.V2 (k:=.i32) (v:=(.int .u8 (JY (AO s p)))) (q:=JX (AO s p)) hS24 AR (i:=3) U (.t U) (.t U) underlying310 underlying21 zeroValue5 (hlet_mb5 _).1 (hlet_mb5 _).2) U (Ae U U (Ab (.ex (.t U) U) U (Ab (.ex (.t U) U) U (Aj U U (Aj U U (Aa (Ac ?_))))))))))
   refine Am (Ad (Ae U U (Aj U U (Aa (Ac ?_)))))
   refine Af rfl ?_ ?_<;>intro hb2<;>try simp only[zb]at hb2
   ·refine Ad ?_
    replace hS24:=(hS24.front 2 U U).front 2 U U
    refine RL.DP call282 (.cons (.t U) (.cons .c .nil)) (WT (Rs:=[.raw b20 (.stringIter ⟨⟨s⟩⟩ ((p+runeLen s p:Int)).toNat),.raw mb5 (AK .i32 ml6 mc7)]) b2 ((CC b2)) ll 92 vl hS24 (by first|assumption|exact Or.inr U|exact Or.inl U) (by omega) (by omega)) U ?_
    rintro v26 w27 ⟨vb25,M28,rfl,hS29,hle30⟩
    refine Aa (CW.at [Y 3 (.pointer (some ⟨b2,0,none⟩)),Y 4 (.map (some mb5)),Y 7 (.int .u8 (JY (AO s p))),Y 12 (.pointer (some ⟨b20,0,none⟩))] U ?_)
    refine CW.region (Ae U U ?_)
    replace hS29:=(hS29.front 1 U U).front 1 U U
    refine RL.DP call282 (.cons (.t U) (.cons (.t U) .nil)) (WT (Rs:=[.raw b20 (.stringIter ⟨⟨s⟩⟩ ((p+runeLen s p:Int)).toNat),.raw mb5 (AK .i32 ml6 mc7)]) b2 ((CC b2)) (ll++[92]) (JY (AO s p)) vb25 hS29 (by first|assumption|exact Or.inr U|exact Or.inl U) (by first|assumption|omega|(simp only[A5,A6,len_nil,IC]at*;omega)) (by first|omega|(simp only[O7,A5,A6,len_nil,IC];omega))) U ?_
    rintro v32 w33 ⟨vb31,M34,rfl,hS35,hle36⟩
    replace hS35:=(hS35.front 3 U U).front 2 U U
    replace hS35:=(hS35.front 2 U U).front 3 U U
    refine Aa λ a hs=>Exists.intro ((p+runeLen s p,vb31,(ll++[92])++[JY (AO s p)],M34)) ⟨hs.BC [3,4,12],?_,?_⟩
    ·refine⟨hS35,?_⟩
     exact⟨by omega,by omega,by rw[<-hF,QW h0 hlt,QQ,uX hb2];simp[List.append_assoc],by simp only[O7,A5,A6,len_nil,IC];omega⟩
    ·show Int.toNat _<Int.toNat _;omega
   ·refine Ad (Ae U U (Ab (.lss (.t U) .c) U (Aj U U (Aa (CW.at [Y 3 (.pointer (some ⟨b2,0,none⟩)),Y 4 (.map (some mb5)),Y 6 (.int .i32 (AO s p)),Y 12 (.pointer (some ⟨b20,0,none⟩)),Y 29 (.bool (decide ((AO s p)<32)))] U ?_)))))
    refine Af rfl ?_ ?_<;>intro hb3<;>try simp only[zb]at hb3
    ·refine Ad ?_
     replace hS24:=(hS24.front 2 U U).front 2 U U
     refine RL.DP call218 (.cons (.t U) (.cons .c .nil)) (bQ (Rs:=[.raw b20 (.stringIter ⟨⟨s⟩⟩ ((p+runeLen s p:Int)).toNat),.raw mb5 (AK .i32 ml6 mc7)]) b2 ((CC b2)) ll [92,117,48,48] vl hS24 (by first|assumption|exact Or.inr U|exact Or.inl U) (by first|assumption|omega|(simp only[A5,A6,len_nil,IC]at*;omega)) (by first|omega|(simp only[O7,A5,A6,len_nil,IC];omega))) U ?_
     rintro v38 w39 ⟨vb37,M40,rfl,hS41,hle42⟩
     refine Aa (CW.at [Y 3 (.pointer (some ⟨b2,0,none⟩)),Y 4 (.map (some mb5)),Y 6 (.int .i32 (AO s p)),Y 12 (.pointer (some ⟨b20,0,none⟩))] U ?_)
     refine CW.region (Ae U U (Ab (.BD (r:=AO s p) (.t U) underlying21 underlying2 (λ _=>by exact Eng.wrap_i64 (by omega))) U (Ab (.add (.t U) .c (λ _=>by omega)) U ?_)))
     refine RL.D6 hS41 .none call283 (.cons (.t U) (.cons .c .nil)) (λ _=>(AC0 (AO s p) _ (hg.low hS41.low) ⟨(VB _ _).1,hb3⟩)) U (λ w43 hS44=>?_)
     refine Ab (.JS (.t U) .c underlying9 (λ _=>by first|omega|(simp only[O7,A5,A6,len_nil,IC];omega))) U ?_
     replace hS44:=(hS44.front 1 U U).front 1 U U
     refine RL.DP call218 (.cons (.t U) (.cons (.t U) .nil)) (bQ (Rs:=[.raw b20 (.stringIter ⟨⟨s⟩⟩ ((p+runeLen s p:Int)).toNat),.raw mb5 (AK .i32 ml6 mc7)]) b2 ((CC b2)) (ll++ints [92,117,48,48]) (Eng.A3 ([49,(FO ((AO s p)/16)).toNat.toUInt8,(FO ((AO s p)%16)).toNat.toUInt8]) 1) vb37 hS44 (by first|assumption|exact Or.inr U|exact Or.inl U) (by first|assumption|omega|(simp only[A5,A6,len_nil,IC]at*;omega)) (by first|omega|(simp only[O7,A5,A6,len_nil,IC];omega))) U ?_
     rintro v46 w47 ⟨vb45,M48,rfl,hS49,hle50⟩
     replace hS49:=(hS49.front 3 U U).front 2 U U
     replace hS49:=(hS49.front 2 U U).front 3 U U
     refine Aa λ a hs=>Exists.intro ((p+runeLen s p,vb45,(ll++ints [92,117,48,48])++ints (Eng.A3 ([49,(FO ((AO s p)/16)).toNat.toUInt8,(FO ((AO s p)%16)).toNat.toUInt8]) 1),M48)) ⟨hs.BC [3,4,12],?_,?_⟩
     ·refine⟨hS49,?_⟩
      exact⟨by omega,by omega,by rw[<-hF,QW h0 hlt,QQ,uY hb2 hb3 hrb.1];simp[List.append_assoc],by simp only[O7,A5,A6,len_nil,IC];omega⟩
     ·show Int.toNat _<Int.toNat _;omega
    ·refine CW.region (Ae U U ?_)
     replace hS24:=(hS24.front 2 U U).front 2 U U
     refine RL.DP call112 (.cons (.t U) (.cons (.t U) .nil)) (bR (Rs:=[.raw b20 (.stringIter ⟨⟨s⟩⟩ ((p+runeLen s p:Int)).toNat),.raw mb5 (AK .i32 ml6 mc7)]) b2 ((CC b2)) ll (AO s p) vl hS24 (by first|assumption|exact Or.inr U|exact Or.inl U) (by omega) (by omega)) U ?_
     rintro v52 w53 ⟨vb51,M54,rfl,hS55,hle56⟩
     replace hS55:=(hS55.front 3 U U).front 2 U U
     replace hS55:=(hS55.front 2 U U).front 3 U U
     refine Aa λ a hs=>Exists.intro ((p+runeLen s p,vb51,ll++CB (AO s p),M54)) ⟨hs.BC [3,4,12],?_,?_⟩
     ·refine⟨hS55,?_⟩
      exact⟨by omega,by omega,by rw[<-hF,QW h0 hlt,QQ,uZ hb2 hb3];simp[List.append_assoc],by simp only[O7,A5,A6,len_nil,IC];omega⟩
     ·show Int.toNat _<Int.toNat _;omega
  ·refine Ab (.ex (.t U) U) U ?_
   refine Aa (CW.at [Y 3 (.pointer (some ⟨b2,0,none⟩)),Y 4 (.map (some mb5)),Y 12 (.pointer (some ⟨b20,0,none⟩)),Y 13 (.tuple #[(.bool false)]),Y 14 (.bool false)] rfl (Ag (Af rfl (λ h=>by cases h) (λ _=>(CW.exit (CW.at [Y 3 (.pointer (some ⟨b2,0,none⟩))] rfl ?_))))))
   refine Ad ?_
   replace hS22:=(hS22.front 2 U U).front 2 U U
   refine RL.DP call282 (.cons (.t U) (.cons .c .nil)) (WT (Rs:=[.raw b20 (.stringIter ⟨⟨s⟩⟩ ((p:Int)).toNat),.raw mb5 (AK .i32 ml6 mc7)]) b2 ((CC b2)) ll 34 vl hS22 (by first|assumption|exact Or.inr U|exact Or.inl U) (by omega) (by omega)) U ?_
   rintro v58 w59 ⟨vb57,M60,rfl,hS61,hle62⟩
   refine Aa (CW.at [Y 3 (.pointer (some ⟨b2,0,none⟩))] U (Ad ?_))
   replace hS61:=(hS61.front 1 U U).front 1 U U
   refine RL.DP call110 (.cons (.t U) .nil) (bS (Rs:=[.raw b20 (.stringIter ⟨⟨s⟩⟩ ((p:Int)).toNat),.raw mb5 (AK .i32 ml6 mc7)]) b2 ((CC b2)) vb57 (AE s) (ll++[34]) hS61 (by first|assumption|exact Or.inr U|exact Or.inl U) (by unfold AE;rw[QQ,<-hF,VA hge];simp[ints])) U ?_
   rintro _ w63 ⟨rfl,hE64⟩
   have hS65:St w nM w63 nM []:=(Ak ⟨λ _ _ _ h=>by cases h⟩).ext hE64
   refine Aj U U ?_
   refine Aa (CW.at [Y 2 (str (AE s))] U (Ah (hE.r1 U U ?_)))
   exact⟨rfl,hS65.low⟩
end Go.Proofs.YtmjpjbmeamnfpaaGreatDoor
namespace Go.Eng
open Go.RowKit
def LC(r:Int):Int:=if r=43 then 0 else if r=45 then 1 else if r=95 then 2 else-1
theorem WW(r:Int):LC r<0↔ ¬(r=43\/r=45\/r=95):=by unfold LC;(repeat' split)<;>omega
theorem AC1: ∀n:Fin 256,Lib.indexByte [43,45,95] (UInt8.ofNat n.val)=LC (n.val:Int):=by decide+kernel
theorem ixb{r:Int}(h0:0<=r)(h1:r<256):Lib.indexByte [43,45,95] r.toNat.toUInt8=LC r:=by
 have:=AC1 ⟨r.toNat,by omega⟩
 have e:((r.toNat:Nat):Int)=r:=by omega
 simp only[e]at this
 exact this
theorem AC3{l:A1}{c:Int}(hl: ∀b∈l,b.toNat<128)(h0:128<=c)(h1:c<=255):Lib.indexByte l c.toNat.toUInt8<0:=by
 rcases Int.lt_or_le (Lib.indexByte l c.toNat.toUInt8) 0 with h|h
 ·exact h
 ·exfalso
  induction l with
  |nil=>exact aX _ h
  |cons a l ih=>
   rcases(aY a _ l).1 h with h2|h2
   ·have:=hl a (by simp)
    subst h2
    have e:(c.toNat.toUInt8).toNat=c.toNat:=by simp;omega
    omega
   ·exact ih (λ b hb=>hl b (by simp[hb])) h2
theorem AC4(k:Int): ∀b∈A3 ([43,45,95]:A1) k,b.toNat<128:=by
 intro b hb
 have:=List.mem_of_mem_drop hb
 simp at this
 rcases this with rfl|rfl|rfl<;>decide
theorem lC(k:Int):A2 ([43,45,95]:A1) k<128:=by
 unfold A2
 rcases Nat.lt_or_ge k.toNat 3 with h|h
 ·have:k.toNat=0\/k.toNat=1\/k.toNat=2:=by omega
  rcases this with h2|h2|h2<;>rw[h2]<;>decide
 ·have:([43,45,95]:A1).getD k.toNat 0=0:=by simp[List.getD_eq_getElem?_getD,List.getElem?_eq_none (show([43,45,95]:A1).length<=k.toNat from h)]
  rw[this];decide
def S1(l:A1)(p:Int):Prop:= ∀j:Int,0<=j->j<p->LC (A2 l j)<0
theorem S1.step {l:A1}{p:Int}(h:S1 l p)(h0:0<=p)(h1:p<len l)(h2:LC (AO l p)<0):S1 l (p+runeLen l p):=by
 intro j hj0 hj1
 rcases Int.lt_or_le j p with hj|hj
 ·exact h j hj0 hj
 ·rcases LX h0 h1 with⟨_,_,h3,h4⟩|⟨h3,h4,_,h5,h6,h7⟩
  ·have:j=p:=by omega
   subst this;rw[WW];omega
  ·rcases Int.lt_or_le (A2 l p) 128 with hb|hb
   ·obtain⟨h8,h9⟩:=h6 hb
    have:j=p:=by omega
    subst this;rw[<-h9];exact h2
   ·have hle:=rune_le l p h1
    have hm:=kH (h7 hb)
    rw[h5]at hm
    have hjl:j.toNat<l.length:=by unfold len at hle;omega
    have hmem:l[j.toNat]∈Eng.sub l p (p+rune l p):=by
     unfold Eng.sub
     rw[List.mem_take_iff_getElem]
     refine⟨j.toNat-p.toNat,by rw[List.length_drop];omega,?_⟩
     rw[List.getElem_drop];congr 1;omega
    have h10:=hm _ hmem
    have h11:A2 l j=(l[j.toNat].toNat:Int):=by simp[A2,hjl]
    rw[WW];omega
theorem S1.bK {l:A1}{p:Int}(h:S1 l p)(hp:len l<=p):l.any (λ b=>([43,45,95]:A1).contains b)=false:=by
 rw[List.any_eq_false]
 intro b hb hc
 obtain⟨j,hj,rfl⟩:=List.getElem_of_mem hb
 have:=h (j:Int) (by omega) (by unfold len at hp;omega)
 rw[WW]at this
 have e:A2 l (j:Int)=(l[j].toNat:Int):=by simp[A2,hj]
 apply this
 simp only[List.contains_cons,List.contains_nil,Bool.or_false,Bool.or_eq_true,beq_iff_eq]at hc
 rw[e]
 rcases hc with h|h|h<;>rw[h]<;>decide
theorem AC5{l:A1}{p:Int}(h0:0<=p)(h1:p<len l)(h2: ¬LC (AO l p)<0):l.any (λ b=>([43,45,95]:A1).contains b)=true:=by
 rw[WW]at h2
 have h3:AO l p=43\/AO l p=45\/AO l p=95:=by omega
 have h4:A2 l p=43\/A2 l p=45\/A2 l p=95:=by
  rcases h3 with h|h|h
  ·exact .inl ((IT h0 h1 (by decide)).1 h)
  ·exact .inr (.inl ((IT h0 h1 (by decide)).1 h))
  ·exact .inr (.inr ((IT h0 h1 (by decide)).1 h))
 have hp:p.toNat<l.length:=by unfold len at h1;omega
 have e:A2 l p=(l[p.toNat].toNat:Int):=by simp[A2,hp]
 rw[List.any_eq_true]
 refine⟨l[p.toNat],List.getElem_mem hp,?_⟩
 simp only[List.contains_cons,List.contains_nil,Bool.or_false,Bool.or_eq_true,beq_iff_eq]
 rw[e]at h4
 have hq: ∀(b:UInt8) (n:Nat),(b.toNat:Int)=n->n<256->b=UInt8.ofNat n:=λ b n h hn=>by rw[<-UInt8.toNat_inj];simp[Nat.mod_eq_of_lt hn];omega
 rcases h4 with h|h|h
 ·exact .inl (hq _ 43 h (by omega))
 ·exact .inr (.inl (hq _ 45 h (by omega)))
 ·exact .inr (.inr (hq _ 95 h (by omega)))
theorem AC6(s:A1)(p:Int):AO s p<55296\/57343<AO s p:=by
 have h:(Utf8.decode ⟨⟨s⟩⟩ p.toNat).1<55296\/(57343<(Utf8.decode ⟨⟨s⟩⟩ p.toNat).1/\(Utf8.decode ⟨⟨s⟩⟩ p.toNat).1<=1114111):=by
  rw[Lib.decode_at];exact Lib.decodeN_valid _ _ _ _ _ (UInt8.toNat_lt _)
 unfold AO;omega
end Go.Eng
namespace Go.Proofs.YtmjpjbmeamnfpaaGreatDoor
open Go.Proofs.Tryz
open Go.Eng
theorem AC7{s:A1}{p:Int}(h0:0<=p)(h1:p<len s)(h:A2 s p<128):AO s p=A2 s p:=(YQ h0 h1 h).1
theorem AC8(r:Int)(w:World):Calls prog 192 [.int .i32 r].toArray w λ e w'=>e= .returned (.bool (Lib.validRune r))/\w'=w:=Tryz.utf8_ValidRune r w
theorem AC9(r:Int)(w:World)(hr:0<=r/\r<=1114111/\(r<55296\/57343<r)):
  Calls prog 146 [(str [43,45,95]),(.int .i32 r)].toArray w λ e w'=>e= .returned (i64 (LC r))/\Ext w w':=by
 refine CW.BH func146 U ntmps146 (Nat.le_of_ble_eq_true U) λ Q hE=>?_
 have h3:len ([43,45,95]:A1)=3:=rfl
 have hx:128<=r->LC r= -1:=λ h=>by unfold LC;rw[if_neg (by omega),if_neg (by omega),if_neg (by omega)]
 have hvd:Utf8.valid r=true:=by unfold Utf8.valid;simp;omega
 have hsf:=λ h=>tT hvd (r:=r) h
 have hlb:=LQ (DR r) (len (DR r)-1)
 have hS:St w nM w nM []:=Ak ⟨λ _ _ _ h=>by cases h⟩
 refine An [0,1] (L':=[Y 0 (str [43,45,95]),Y 1 (.int .i32 r)]) ?_ U
 refine Ad (Ab (.assign .c) U (Aa (Ac (Am ?_))))
 refine Ad (Ae U U (Ab (.leq .c (.t U)) U (Ae U U (RL.v (.pos U U) (.move (.t U)) U (RL.v (.pos U U) (.lss (.g U (λ h=>h)) .c) U (Ab (.and (.t U) (.g U (λ h=>h))) U (Aj U U (Aa (Ac ?_)))))))))
 refine Af rfl ?_ ?_<;>intro hb1<;>try simp only[zb]at hb1
 ·refine Ad (Ae U U (Ae U U (Ab (.BD (r:=r) (.t U) underlying21 underlying5 (λ _=>by exact Eng.wrap_u8 (by omega))) U ?_)))
  refine RL.DC .none call119 (.cons (.t U) (.cons (.t U) .nil)) (λ _=>(V8 [43,45,95] r _)) U ?_
  refine Aj U U ?_
  refine Aa (CW.at [Y 4 (i64 (Lib.indexByte [43,45,95] r.toNat.toUInt8))] U (Ah (hE.r1 U U ?_)))
  exact⟨by rw[ixb (by omega) (by omega)],hS.low⟩
 ·refine Ad (Ae U U (Ab (.eql (.t U) .c) U (Aj U U (Aa (Ac ?_)))))
  refine Af rfl ?_ ?_<;>intro hb2<;>try simp only[zb]at hb2
  ·refine Ag (Ad (Ae U U ?_))
   refine RL.UW (s:=[43,45,95]) hS (.t U) underlying9 U (λ w1 b2 hS3=>?_)
   refine Aa (Ac (Am ?_))
   refine CW.loop (σ:=Int) (λ p=>[Y 175 (.pointer (some ⟨b2,0,none⟩))]) (λ p wl=>St w nM wl nM [.raw b2 (.stringIter ⟨⟨[43,45,95]⟩⟩ ((p:Int)).toNat)]/\0<=p/\p<=3) (λ p=>(3-p).toNat) 0 [175] U ?_ ?_
   ·refine⟨hS3,?_⟩;exact⟨by omega,by omega⟩
   ·rintro p wl ⟨hS4,h0,h1⟩
    have hrl:=SP ([43,45,95]:A1) p h0
    refine Ad ?_
    refine RL.UX (s:=[43,45,95]) (p:=p) hS4 (i:=0) U (.t U) (by omega) U (λ hlt w5 hS6=>?_) (λ hge=>?_)
    ·replace hS6:St w nM w5 nM [.raw b2 (.stringIter ⟨⟨[43,45,95]⟩⟩ ((p+runeLen [43,45,95] p:Int)).toNat)]:=hS6
     refine Ab (.ex (.t U) U) U (Aa (Ac ?_))
     refine Ag (Af rfl (λ _=>?_) (λ h=>by cases h))
     refine Ai (Ac (Am (Ad (Ab (.ex (.t U) U) U (Ab (.ex (.t U) U) U (Aj U U (Aj U U (Aa (Ac ?_)))))))))
     refine Ad (Ae U U (Ab (.eql (.t U) .c) U (Aa (Ac ?_))))
     refine Af rfl ?_ ?_<;>intro hb4<;>try simp only[zb]at hb4
     ·refine Ad (Ae U U (Aj U U (Aa (Ac (Ah (hE.r1 U U ?_))))))
      exfalso;have hlow:=lC p;have hra:=AC7 (s:=[43,45,95]) h0 hlt hlow;omega
     ·refine Ai λ a hs=>Exists.intro (p+runeLen [43,45,95] p) ⟨hs.BC [175],?_,?_⟩
      ·refine⟨hS6,?_⟩
       exact⟨by omega,by omega⟩
      ·show Int.toNat _<Int.toNat _;omega
    ·refine Ab (.ex (.t U) U) U (Aa (Ac ?_))
     refine Ag (Af rfl (λ h=>by cases h) (λ _=>(CW.exit (CW.at [] rfl (Ad ?_)))))
     refine Ab (.assign .c) U (Aa (Ac ?_))
     refine Ah (hE.r1 U U ?_)
     exact⟨by rw[hx (by omega)],hS4.low⟩
  ·refine Ad (Ae U U ?_)
   refine RL.DC .none call192 (.cons (.t U) .nil) (λ _=>(AC8 r _)) U ?_
   refine Ab (.not (.t U)) U (Aj U U ?_)
   refine Aa (CW.at [Y 0 (str [43,45,95]),Y 1 (.int .i32 r),Y 4 (i64 0),Y 183 (.bool (!(Lib.validRune r)))] U ?_)
   refine Af rfl ?_ ?_<;>intro hb6<;>try simp only[zb]at hb6
   ·refine Ad (Ab (.assign .c) U (Aa (Ac (Ah (hE.r1 U U ?_)))))
    exfalso;unfold Lib.validRune at hb6;simp at hb6;omega
   ·refine CW.scope (Ad (Ae U U (Ab (.tS (.t U) underlying21 underlying9) U (Aj U U (Aa (Ac ?_))))))
    refine Ad (Ae U U (Ab (.BR (.t U) underlying9) U (Ab (.sub (.t U) .c (λ _=>by omega)) U (Aj U U (Aa (Ac (Ad ?_)))))))
    refine Ae U U (Aj U U (Aa (Ac ?_)))
    refine Ad (Ab (.assign .c) U (Aa (Ac (Ag ?_))))
    refine Am ?_
    refine CW.fT 1 ?_
    refine Ag (Ad (Ae U U (Ae U U (Ab (.BR (.t U) underlying9) U (Ab (.lss (.t U) (.t U)) U (Aa (Ac ?_)))))))
    refine Af rfl ?_ ?_<;>intro hb7<;>try simp only[zb]at hb7
    ·refine Ai (Ac (Am (CW.scope (Ag ?_))))
     refine Ag ?_
     refine CW.P5 hS N6 (by decide+kernel) ?_
     refine RQ.v .none (.move (.t U)) U ?_
     refine RQ.v .none (.move (.t U)) U ?_
     refine RQ.v .none (.C2 (.t U) (.t U) underlying9 (λ _=>by omega)) U ?_
     refine RQ.v .none (.move (.t U)) U ?_
     refine RQ.v .none (.move (.t U)) U ?_
     refine RQ.v .none (.C2 (.t U) (.t U) underlying9 (λ _=>by omega)) U ?_
     refine RQ.v .none (.neq (.t U) (.t U)) U ?_
     refine RQ.nil (λ a hs w7 hS8=>CW.at [Y 0 (str [43,45,95]),Y 1 (.int .i32 r),Y 4 (i64 0),Y 7 (str (DR r)),Y 8 (i64 ((len (DR r))-1)),Y 9 (i64 ((len (DR r))-1)),Y 10 (i64 0),Y 33 (.bool ((A2 [43,45,95] ((len (DR r))-1)) != (A2 (DR r) ((len (DR r))-1))))] U ?_ a hs)
     refine Af rfl ?_ ?_<;>intro hb8<;>try simp only[zb]at hb8
     ·refine Ag ?_
      refine CW.P5 hS8 N6 (by decide+kernel) ?_
      refine RQ.v .none (.move (.t U)) U ?_
      refine RQ.v .none (.move (.t U)) U ?_
      refine RQ.v .none (.add (.t U) .c (λ _=>by omega)) U ?_
      refine RQ.v .none (.JS (.t U) (.t U) underlying9 (λ _=>by omega)) U ?_
      refine RQ.v .none (.move (.t U)) U ?_
      refine RQ.v .none (.move (.t U)) U ?_
      refine RQ.v .none (.C2 (.t U) (.t U) underlying9 (λ _=>by omega)) U ?_
      refine RQ.call .none call119 (.cons (.t U) (.cons (.t U) .nil)) (λ _=>(λ w2 hw2=>((V8 (Eng.A3 [43,45,95] (((len (DR r))-1)+1)) (A2 (DR r) ((len (DR r))-1)) _)).mono (λ e w3 h3=>⟨h3.1,h3.2▸hw2⟩))) U ?_
      refine RQ.v .none (.assign (.t U)) U ?_
      refine RQ.nil (λ a hs w9 hS10=>CW.at [Y 0 (str [43,45,95]),Y 1 (.int .i32 r),Y 4 (i64 0),Y 7 (str (DR r)),Y 8 (i64 ((len (DR r))-1)),Y 9 (i64 ((len (DR r))-1)),Y 10 (i64 0),Y 11 (i64 (Lib.indexByte (Eng.A3 [43,45,95] (((len (DR r))-1)+1)) (A2 (DR r) ((len (DR r))-1)).toNat.toUInt8))] U ?_ a hs)
      refine Ag (Ad (Ae U U (Ab (.lss (.t U) .c) U (Aa (Ac ?_)))))
      refine Af rfl ?_ ?_<;>intro hb9<;>try simp only[zb]at hb9
      ·refine Ad (Ab (.assign .c) U (Aa (Ac (Ah (hE.r1 U U ?_)))))
       exact⟨by rw[hx (by omega)],hS10.low⟩
      ·exfalso;have hd2:=(hsf (by omega)).2.2;have hd1:=AC3 (AC4 (len (DR r)-1+1)) hd2 hlb.2;omega
     ·exfalso;have hd1:=lC (len (DR r)-1);have hd2:=(hsf (by omega)).2.2;omega
    ·refine CW.exit (CW.at [] U ?_)
     refine Ag (Ad (Ab (.assign .c) U (Aa (Ac ?_))))
     refine Ah (hE.r1 U U ?_)
     exact⟨by rw[hx (by omega)],hS.low⟩
theorem AD0(n:Int)(w:World):
  Calls prog 261 [(i64 n)].toArray w λ e w'=>e= .returned (.bool (decide (8<n)))/\w'=w:=by
 refine CW.BH func261 U ntmps261 (Nat.le_of_ble_eq_true U) λ Q hE=>?_
 refine An [0] (L':=[Y 0 (i64 n)]) ?_ U
 refine Ad (Ab (.assign .c) U (Aa (Ac (Ad ?_))))
 refine Ae U U (Ab (.gtr (.t U) .c) U (Aj U U (Aa (Ac ?_))))
 refine Ah (hE.r1 U U ?_)
 exact⟨rfl,rfl⟩
theorem AD1(l:A1)(w:World)(hl:len l<=8):
  Calls prog 235 [(str l),(str [43,45,95])].toArray w λ e w'=> ∃v,e= .returned v/\ ∃x,(0<=x↔l.any (λ b=>([43,45,95]:A1).contains b)=true)/\v=i64 x/\Ext w w':=by
 refine CW.BH func235 U ntmps235 (Nat.le_of_ble_eq_true U) λ Q hE=>?_
 have h3:len ([43,45,95]:A1)=3:=rfl
 have:=A4 l
 have hS:St w nM w nM []:=Ak ⟨λ _ _ _ h=>by cases h⟩
 refine An [0,1] (L':=[Y 0 (str l),Y 1 (str [43,45,95])]) ?_ U
 refine Ad (Ab (.assign .c) U (Aa (Ac (Ag ?_))))
 refine Ad (Ae U U (Ab (.O1 (.t U) .c) U (Aa (Ac ?_))))
 refine Af rfl ?_ ?_<;>intro hb1<;>try simp only[zb]at hb1
 ·exfalso;simp at hb1
 ·refine Ai (Ac (Ag (Ad (Ae U U (Ab (.BR (.t U) underlying9) U (Ab (.eql (.t U) .c) U (Aa (Ac ?_))))))))
  refine Af rfl ?_ ?_<;>intro hb2<;>try simp only[zb]at hb2
  ·exfalso;omega
  ·refine Ai (Ac (Ag (Ad (Ae U U (Ab (.BR (.t U) underlying9) U ?_)))))
   refine RL.DC .none call261 (.cons (.t U) .nil) (λ _=>(AD0 (len l) _)) U ?_
   refine Aa (CW.at [Y 0 (str l),Y 1 (str [43,45,95]),Y 26 (.bool (decide (8<(len l))))] U ?_)
   refine Af rfl ?_ ?_<;>intro hb3<;>try simp only[zb]at hb3
   ·exfalso;omega
   ·refine Ai (Ac (Ag (Ad (Ae U U ?_))))
    refine RL.UW (s:=l) hS (.t U) underlying9 U (λ w1 b2 hS3=>?_)
    refine Aa (Ac (Am ?_))
    refine CW.loop (σ:=Int) (λ p=>[Y 1 (str [43,45,95]),Y 45 (.pointer (some ⟨b2,0,none⟩))]) (λ p wl=>St w nM wl nM [.raw b2 (.stringIter ⟨⟨l⟩⟩ ((p:Int)).toNat)]/\0<=p/\p<=len l/\S1 l p) (λ p=>(len l-p).toNat) 0 [1,45] U ?_ ?_
    ·refine⟨hS3,?_⟩;exact⟨by omega,by omega,λ j h0 h1=>by omega⟩
    ·rintro p wl ⟨hS4,h0,h1,hN⟩
     have hrl:=SP l p h0
     have hrb:=VB l p
     have hrv:=AC6 l p
     refine Ad ?_
     refine RL.UX (s:=l) (p:=p) hS4 (i:=0) U (.t U) (by omega) U (λ hlt w5 hS6=>?_) (λ hge=>?_)
     ·replace hS6:St w nM w5 nM [.raw b2 (.stringIter ⟨⟨l⟩⟩ ((p+runeLen l p:Int)).toNat)]:=hS6
      refine Ab (.ex (.t U) U) U (Aa (Ac ?_))
      refine Ag (Af rfl (λ _=>?_) (λ h=>by cases h))
      refine Ai (Ac (Am (Ad (Ab (.ex (.t U) U) U (Ab (.ex (.t U) U) U (Aj U U (Aj U U (Aa (Ac ?_)))))))))
      refine Ad (Ae U U (Ae U U ?_))
      refine RL.D6 hS6 .none call146 (.cons (.t U) (.cons (.t U) .nil)) (λ _=>(AC9 (AO l p) _ (by first|assumption|omega))) U (λ w7 hS8=>?_)
      refine Ab (.geq (.t U) .c) U ?_
      refine Aa (CW.at [Y 1 (str [43,45,95]),Y 9 (i64 p),Y 45 (.pointer (some ⟨b2,0,none⟩)),Y 53 (.bool (decide (0<=(LC (AO l p)))))] U ?_)
      refine Af rfl ?_ ?_<;>intro hb5<;>try simp only[zb]at hb5
      ·refine Ad (Ae U U (Aj U U (Aa (Ac (Ah (hE.r1 U U ?_))))))
       have hf:=AC5 h0 hlt (by omega)
       exact⟨_,rfl,_,⟨λ _=>hf,λ _=>h0⟩,rfl,hS8.low⟩
      ·refine Ai λ a hs=>Exists.intro (p+runeLen l p) ⟨hs.BC [1,45],?_,?_⟩
       ·refine⟨hS8,?_⟩
        exact⟨by omega,by omega,hN.step h0 hlt (by omega)⟩
       ·show Int.toNat _<Int.toNat _;omega
     ·refine Ab (.ex (.t U) U) U (Aa (Ac ?_))
      refine Ag (Af rfl (λ h=>by cases h) (λ _=>(CW.exit (CW.at [] rfl (Ad ?_)))))
      refine Ab (.assign .c) U (Aa (Ac ?_))
      refine Ah (hE.r1 U U ?_)
      have hf:=hN.bK (by omega)
      exact⟨_,rfl,_,⟨λ h=>absurd h (by decide),λ h=>by rw[hf]at h;cases h⟩,rfl,hS4.low⟩
theorem AD2(l:A1)(w:World)(hl:len l=4):
  Calls prog 195 [(str l),(str [43,45,95])].toArray w λ e w'=>e= .returned (.bool (l.any (λ b=>([43,45,95]:A1).contains b)))/\Ext w w':=by
 refine CW.BH func195 U ntmps195 (Nat.le_of_ble_eq_true U) λ Q hE=>?_
 have hS:St w nM w nM []:=Ak ⟨λ _ _ _ h=>by cases h⟩
 refine An [0,1] (L':=[Y 0 (str l),Y 1 (str [43,45,95])]) ?_ U
 refine Ad (Ab (.assign .c) U (Aa (Ac (Ad ?_))))
 refine Ae U U (Ae U U ?_)
 refine RL.DP call235 (.cons (.t U) (.cons (.t U) .nil)) (AD1 l _ (by omega)) U ?_
 rintro v2 w3 ⟨ix1,hix1,rfl,hEix1⟩
 have hS4:=hS.ext hEix1
 refine Ab (.geq (.t U) .c) U (Aj U U ?_)
 refine Aa (CW.at [Y 4 (.bool (decide (0<=ix1)))] U (Ah (hE.r1 U U ?_)))
 have hq:decide (0<=ix1)=l.any (λ b=>([43,45,95]:A1).contains b):=by rw[Bool.eq_iff_iff,decide_eq_true_eq];exact hix1
 rw[<-hq];exact⟨rfl,hS4.low⟩
end Go.Proofs.YtmjpjbmeamnfpaaGreatDoor
