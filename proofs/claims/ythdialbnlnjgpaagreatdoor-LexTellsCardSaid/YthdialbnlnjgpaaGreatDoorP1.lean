import Derived.Test.YthdialbnlnjgpaaGreatDoorEngL
import Derived.Laws.BitsLemmas
import Derived.Test.YthdialbnlnjgpaaGreatDoorPure
import Derived.Test.YthdialbnlnjgpaaGreatDoorProg
import Derived.Test.YthdialbnlnjgpaaGreatDoorR1
set_option linter.unusedVariables false
set_option linter.unusedSimpArgs false
namespace Go.Proofs.YthdialbnlnjgpaaGreatDoor
open Go.Eng

/- loupe/lex.isWord -/
set_option maxRecDepth 100000 in
theorem isWord_c (r : Int) (f : Bool) (w : World)  :
  Calls Tryz.prog 41 [(.int .i32 r), (.bool f)].toArray w fun e w' => e = .returned (.bool (isWordR r f)) ∧ w' = w := by
 refine CW.enter Tryz.func41 rfl Tryz.ntmps41 (Nat.le_of_ble_eq_true rfl) ?_
 refine CW.weaken [0, 1] (L' := [Y 0 (.int .i32 r), Y 1 (.bool f)]) ?_ rfl
 refine CW.sr ?_
 refine RL.u (.assign .c) rfl ?_
 refine RL.nil (CW.at [Y 0 (.int .i32 r), Y 1 (.bool f)] rfl ?_)
 refine CW.sr ?_
 refine RL.m rfl rfl (RL.u (.geq (.t rfl) .c) rfl (RL.m rfl rfl (RL.v (.pos rfl rfl) (.move (.t rfl)) rfl (RL.v (.pos rfl rfl) (.leq (.g rfl (fun h => h)) .c) rfl (RL.u (.and (.t rfl) (.g rfl (fun h => h))) rfl ?_)))))
 refine RL.m rfl rfl (RL.v (.neg rfl rfl) (.move (.t rfl)) rfl (RL.v (.neg rfl rfl) (.geq (.g rfl (fun h => h)) .c) rfl (RL.v (.neg rfl rfl) (.move (.g rfl (fun h => h))) rfl (RL.v (.posG rfl rfl) (.move (.t rfl)) rfl (RL.v (.posG rfl rfl) (.leq (.g rfl (fun h => h)) .c) rfl ?_)))))
 refine RL.v (.neg rfl rfl) (.and (.g rfl (fun h => h)) (.g rfl (fun h => h))) rfl (RL.u (.or (.t rfl) (.g rfl (fun h => h))) rfl (RL.m rfl rfl (RL.v (.neg rfl rfl) (.move (.t rfl)) rfl (RL.v (.neg rfl rfl) (.eql (.g rfl (fun h => h)) .c) rfl (RL.u (.or (.t rfl) (.g rfl (fun h => h))) rfl ?_)))))
 refine RL.a rfl rfl ?_
 refine RL.nil (CW.at [Y 0 (.int .i32 r), Y 1 (.bool f), Y 5 (.bool ((((decide ((97) ≤ (r))) && (decide ((r) ≤ (122)))) || ((decide ((65) ≤ (r))) && (decide ((r) ≤ (90))))) || ((r) == (95))))] rfl ?_)
 refine CW.sr ?_
 refine RL.m rfl rfl (RL.m rfl rfl (RL.v (.neg rfl rfl) (.move (.t rfl)) rfl (RL.v (.neg rfl rfl) (.not (.g rfl (fun h => h))) rfl (RL.v (.neg rfl rfl) (.move (.g rfl (fun h => h))) rfl (RL.v (.posG rfl rfl) (.move (.t rfl)) rfl ?_)))))
 refine RL.v (.posG rfl rfl) (.geq (.g rfl (fun h => h)) .c) rfl (RL.v (.neg rfl rfl) (.and (.g rfl (fun h => h)) (.g rfl (fun h => h))) rfl (RL.v (.neg rfl rfl) (.move (.g rfl (fun h => h))) rfl (RL.v (.posG rfl rfl) (.move (.t rfl)) rfl (RL.v (.posG rfl rfl) (.leq (.g rfl (fun h => h)) .c) rfl (RL.v (.neg rfl rfl) (.and (.g rfl (fun h => h)) (.g rfl (fun h => h))) rfl ?_)))))
 refine RL.u (.or (.t rfl) (.g rfl (fun h => h))) rfl (RL.a rfl rfl ?_)
 refine RL.nil (CW.at [Y 4 (.bool (((((decide ((97) ≤ (r))) && (decide ((r) ≤ (122)))) || ((decide ((65) ≤ (r))) && (decide ((r) ≤ (90))))) || ((r) == (95))) || (((!(f)) && (decide ((48) ≤ (r)))) && (decide ((r) ≤ (57))))))] rfl ?_)
 refine CW.ret (ret1 (P := Tryz.prog) (fn := Tryz.f41) (R := fun e w' => e = .returned (.bool (isWordR r f)) ∧ w' = w) rfl rfl ?_)
 exact ⟨by simp only [isWordR, isLetter, isFig, Bool.and_assoc], rfl⟩

/- loupe/lex.word -/
set_option maxRecDepth 100000 in
theorem word_c (s : Str) (w : World) (hb : len s ≤ 9223372036854775807) :
  Calls Tryz.prog 20 [(str s)].toArray w fun e w' => e = .returned (str (wordP s)) ∧ Ext w w' := by
 refine CW.enter Tryz.func20 rfl Tryz.ntmps20 (Nat.le_of_ble_eq_true rfl) ?_
 have := len_nonneg s
 have hS : St w (fun _ _ => none) w (fun _ _ => none) [] := St.start ⟨fun _ _ _ h => by cases h⟩
 refine CW.weaken [0] (L' := [Y 0 (str s)]) ?_ rfl
 refine CW.sr ?_
 refine RL.u (.assign .c) rfl ?_
 refine RL.nil (CW.at [Y 0 (str s)] rfl ?_)
 refine CW.seq ?_
 refine CW.sr ?_
 refine RL.m rfl rfl ?_
 refine RL.rangeS (s := s) hS (.t rfl) Tryz.underlying9 rfl (fun w1 b2 hS3 => ?_)
 replace hS3 : St w (fun _ _ => none) w1 (fun _ _ => none) [.raw b2 (.stringIter ⟨⟨s⟩⟩ ((0 : Int)).toNat)] := hS3
 refine RL.nil (CW.at [Y 0 (str s), Y 6 (.pointer (some ⟨b2, 0, none⟩))] rfl ?_)
 refine CW.block ?_
 refine CW.loop (σ := Int) (fun p => [Y 0 (str s), Y 6 (.pointer (some ⟨b2, 0, none⟩))]) (fun p wl => St w (fun _ _ => none) wl (fun _ _ => none) [.raw b2 (.stringIter ⟨⟨s⟩⟩ ((p : Int)).toNat)] ∧ 0 ≤ p ∧ p ≤ len s ∧ wordTo s p = wordTo s 0) (fun p => (len s - p).toNat) (0) [0, 6] rfl ?_ ?_
 ·refine ⟨hS3, ?_⟩; exact ⟨by omega, by omega, rfl⟩
 ·rintro p wl ⟨hS4, hp0, hp1, hpF⟩
  refine CW.sr ?_
  refine RL.nextS (s := s) (p := p) hS4 (i := 0) rfl (.t rfl) (by omega) rfl (fun hlt w5 hS6 => ?_) (fun hge => ?_)
  ·replace hS6 : St w (fun _ _ => none) w5 (fun _ _ => none) [.raw b2 (.stringIter ⟨⟨s⟩⟩ (((p) + runeLen (s) (p) : Int)).toNat)] := hS6
   refine RL.u (.ex (.t rfl) rfl) rfl ?_
   refine RL.nil (CW.at [Y 0 (str s), Y 6 (.pointer (some ⟨b2, 0, none⟩)), Y 7 (.tuple #[(.bool true), (i64 p), (.int .i32 (runeAt (s) (p)))]), Y 8 (.bool true)] rfl ?_)
   refine CW.seq ?_
   refine CW.cond rfl (fun _ => ?_) (fun h => by cases h)
   refine CW.skip (CW.at [Y 0 (str s), Y 6 (.pointer (some ⟨b2, 0, none⟩)), Y 7 (.tuple #[(.bool true), (i64 p), (.int .i32 (runeAt (s) (p)))])] rfl ?_)
   refine CW.block ?_
   refine CW.sr ?_
   refine RL.u (.ex (.t rfl) rfl) rfl (RL.u (.ex (.t rfl) rfl) rfl (RL.a rfl rfl (RL.a rfl rfl ?_)))
   refine RL.nil (CW.at [Y 0 (str s), Y 3 (i64 p), Y 4 (.int .i32 (runeAt (s) (p))), Y 6 (.pointer (some ⟨b2, 0, none⟩))] rfl ?_)
   refine CW.sr ?_
   refine RL.m rfl rfl (RL.m rfl rfl (RL.u (.eql (.t rfl) .c) rfl ?_))
   refine RL.callS .none Tryz.call41 (.cons (.t rfl) (.cons (.t rfl) .nil)) (fun _ => (isWord_c (runeAt (s) (p)) ((p) == (0)) _)) rfl ?_
   refine RL.u (.not (.t rfl)) rfl ?_
   refine RL.nil (CW.at [Y 0 (str s), Y 3 (i64 p), Y 6 (.pointer (some ⟨b2, 0, none⟩)), Y 15 (.bool (!(isWordR (runeAt (s) (p)) ((p) == (0)))))] rfl ?_)
   refine CW.cond rfl (fun hb2 => ?_) (fun hb2 => ?_)
   ·try simp only [zb] at hb2
    have hw := isWordR_rune (f := p == 0) hp0 hlt
    refine CW.sr ?_
    refine RL.m rfl rfl (RL.m rfl rfl (RL.u (.slSh (.t rfl) (.t rfl) Tryz.underlying9 (fun _ => by omega)) rfl (RL.a rfl rfl ?_)))
    refine RL.nil (CW.at [Y 2 (str (Eng.sub (s) 0 (p)))] rfl ?_)
    refine CW.ret (ret1 (P := Tryz.prog) (fn := Tryz.f20) (R := fun e w' => e = .returned (str (wordP s)) ∧ Ext w w') rfl rfl ?_)
    exact ⟨by rw [wordP, ← hpF, wordTo_stop hp0 hlt (by rw [← hw.1]; exact hb2)], hS6.low⟩
   ·try simp only [zb] at hb2
    have hw := isWordR_rune (f := p == 0) hp0 hlt
    have hl1 : runeLen s p = 1 := hw.2 (by rw [← hw.1]; exact hb2)
    refine CW.skip fun a hs => Exists.intro (p + runeLen s p) ⟨hs.keep [0, 6], ?_, ?_⟩
    ·refine ⟨hS6, ?_⟩
     exact ⟨by omega, by omega, by rw [← hpF, hl1, wordTo_step hp0 hlt (by rw [← hw.1]; exact hb2)]⟩
    ·show Int.toNat _ < Int.toNat _; omega
  ·skip
   refine RL.u (.ex (.t rfl) rfl) rfl ?_
   refine RL.nil (CW.at [Y 0 (str s), Y 6 (.pointer (some ⟨b2, 0, none⟩)), Y 7 (.tuple #[(.bool false)]), Y 8 (.bool false)] rfl ?_)
   refine CW.seq ?_
   refine CW.cond rfl (fun h => by cases h) (fun _ => ?_)
   refine CW.exit (CW.at [Y 0 (str s)] rfl ?_)
   refine CW.sr ?_
   refine RL.m rfl rfl (RL.a rfl rfl ?_)
   refine RL.nil (CW.at [Y 2 (str s)] rfl ?_)
   refine CW.ret (ret1 (P := Tryz.prog) (fn := Tryz.f20) (R := fun e w' => e = .returned (str (wordP s)) ∧ Ext w w') rfl rfl ?_)
   exact ⟨by rw [wordP, ← hpF, wordTo_end hge, sub_all _ _ (by omega)], hS4.low⟩

end Go.Proofs.YthdialbnlnjgpaaGreatDoor
