/-
  TextParses, walked.
  Lists in lists: plain. No program in it.
  A NUMBER'S TEXT, CUT OFF, is none, or a number: it is never one of too many figures. Plain: no program in it.
  A quoted text is read of its own bytes. Plain: no program in it.
  A TEXT THAT IS CUT OFF is none: plain. No program in it.
  A TEXT WITHIN A LONGER ONE is read as it: plain. No program in it.
  TWO TEXTS IN BRACKETS AND IN BRACES are read as the list and as the object of both: plain. No program in it.
  TextLists, walked.
-/
import Derived.Test.YtjfaikgooldcbaaGreatDoorZt4
import Derived.Laws.BitsLemmas
import Derived.Test.YtjfaikgooldcbaaGreatDoorZt3
import Derived.Test.YtjfaikgooldcbaaGreatDoorProg
import Derived.Test.YtjfaikgooldcbaaGreatDoorZt22
import Derived.Test.YtjfaikgooldcbaaGreatDoorZt23
import Derived.Test.YtjfaikgooldcbaaGreatDoorZt5
import Derived.Test.YtjfaikgooldcbaaGreatDoorZt11
import Derived.Test.YtjfaikgooldcbaaGreatDoorZt14
import Derived.Test.YtjfaikgooldcbaaGreatDoorZt13
set_option linter.unusedVariables false
set_option linter.unusedSimpArgs false
set_option maxRecDepth 100000
namespace Go.Proofs.YtjfaikgooldcbaaGreatDoor
open Go.Eng

theorem parse_lit {w wv : World} {M0 M : Mem} {Rs : List HO} (s : Str) (r : Vl × Int × Int) (hS : St w M0 wv M Rs) (hg : Gl w) (hb : len s ≤ 1099511627776) (hr : parseT s = r) : Calls Tryz.prog 11 [str s].toArray wv fun e w' => ParseP w M0 M Rs r e w' := hr ▸ parse_c s hS hg hb
/- loupe/loupelaw04.alive -/
theorem alive4_c  (w : World) (hg : Gl w) :
  Calls Tryz.prog 10 [].toArray w fun e w' => e = .returned (.bool true) ∧ Ext w w' := by
 refine CW.enter1 Tryz.func10 rfl Tryz.ntmps10 (Nat.le_of_ble_eq_true rfl) fun Q hE => ?_
 have hfl : len aliveT.flat = 4 := by decide
 have hS : St w nM w nM [] := St.start ⟨fun _ _ _ h => by cases h⟩
 refine CW.weaken [] (L' := []) ?_ rfl
 refine CW.sr (RL.u (.assign .c) rfl (RL.nil (CW.id (CW.sr ?_))))
 refine RL.callP Tryz.call11 (.cons .c .nil) (parse_lit (Rs := []) alive1 ((aliveT.flat, 0, 0)) hS hg (by decide) alive_p1) rfl ?_
 rintro v4 w5 ⟨a1, c2, M6, rfl, hsl_v4, hS7, hle8⟩
 replace hsl_v4 : Sl M6 6 aliveT.flat.length (.slice a1 aliveT.flat.length c2) (aliveT.flat.flatMap Nd.cells) := hsl_v4
 refine RL.m rfl rfl (RL.u (.ex (.t rfl) rfl) rfl (RL.u (.ex (.t rfl) rfl) rfl (RL.u (.ex (.t rfl) rfl) rfl (RL.a rfl rfl (RL.a rfl rfl ?_)))))
 refine RL.a rfl rfl ?_
 refine RL.nil (CW.at [Y 1 (.slice a1 aliveT.flat.length c2), Y 2 (i64 0), Y 3 (i64 0)] rfl (CW.sr ?_))
 refine RL.callP Tryz.call11 (.cons .c .nil) (parse_lit (Rs := []) alive2 ((([] : Vl), 3, 1)) hS7 hg (by decide) alive_p2) rfl ?_
 rintro v12 w13 ⟨a9, c10, M14, rfl, hsl_v12, hS15, hle16⟩
 replace hsl_v4 := hsl_v4.mono hle16
 replace hsl_v12 : Sl M14 6 (([] : Vl)).length (.slice a9 (([] : Vl)).length c10) ((([] : Vl)).flatMap Nd.cells) := hsl_v12
 refine RL.m rfl rfl (RL.u (.ex (.t rfl) rfl) rfl (RL.u (.ex (.t rfl) rfl) rfl (RL.u (.ex (.t rfl) rfl) rfl (RL.a rfl rfl (RL.a rfl rfl ?_)))))
 refine RL.a rfl rfl ?_
 refine RL.nil (CW.at [Y 1 (.slice a1 aliveT.flat.length c2), Y 2 (i64 0), Y 3 (i64 0), Y 5 (i64 3), Y 6 (i64 1)] rfl (CW.sr (RL.m rfl rfl (RL.u (.eql (.t rfl) .c) rfl (RL.m rfl rfl (RL.v (.pos rfl rfl) (.move (.t rfl)) rfl (RL.v (.pos rfl rfl) (.eql (.g rfl (fun h => h)) .c) rfl (RL.u (.and (.t rfl) (.g rfl (fun h => h))) rfl (RL.m rfl rfl (RL.v (.pos rfl rfl) (.move (.t rfl)) rfl ?_))))))))))
 refine RL.callE hS15 (.pos rfl rfl) Tryz.call15 (.cons (.g rfl (fun h => h)) .nil) (fun hW => by simp only [zb] at hW; exact (compact_c M14 aliveT (.slice a1 aliveT.flat.length c2) _ hS15.sat hsl_v4 alive_ok (hg.low hS15.low) (by decide +kernel) (by decide +kernel) (by decide +kernel))) rfl (fun w17 hS18 => ?_)
 refine RL.v (.pos rfl rfl) (.seql (.g rfl (fun h => h)) .c) rfl (RL.u (.and (.t rfl) (.g rfl (fun h => h))) rfl (RL.m rfl rfl (RL.v (.pos rfl rfl) (.move (.t rfl)) rfl ?_)))
 refine RL.callE hS18 (.pos rfl rfl) Tryz.call17 (.cons (.g rfl (fun h => h)) .nil) (fun hW => by simp only [zb] at hW; exact (indent_c M14 aliveT (.slice a1 aliveT.flat.length c2) _ hS18.sat hsl_v4 alive_ok (hg.low hS18.low) (by decide +kernel) (by decide +kernel) (by decide +kernel))) rfl (fun w19 hS20 => ?_)
 refine RL.v (.pos rfl rfl) (.seql (.g rfl (fun h => h)) .c) rfl (RL.u (.and (.t rfl) (.g rfl (fun h => h))) rfl (RL.m rfl rfl (RL.v (.pos rfl rfl) (.move (.t rfl)) rfl (RL.v (.pos rfl rfl) (.eql (.g rfl (fun h => h)) .c) rfl (RL.u (.and (.t rfl) (.g rfl (fun h => h))) rfl ?_)))))
 refine RL.m rfl rfl (RL.v (.pos rfl rfl) (.move (.t rfl)) rfl (RL.v (.pos rfl rfl) (.eql (.g rfl (fun h => h)) .c) rfl (RL.u (.and (.t rfl) (.g rfl (fun h => h))) rfl (RL.a rfl rfl ?_))))
 refine RL.nil (CW.at [Y 0 (.bool ((((((0 == 0) && (0 == 0)) && ((prt false 0 aliveT) == [123, 34, 97, 34, 58, 91, 116, 114, 117, 101, 44, 110, 117, 108, 108, 93, 125])) && ((prt true 0 aliveT) == [123, 10, 32, 32, 34, 97, 34, 58, 32, 91, 10, 32, 32, 32, 32, 116, 114, 117, 101, 44, 10, 32, 32, 32, 32, 110, 117, 108, 108, 10, 32, 32, 93, 10, 125])) && (1 == 1)) && (3 == 3)))] rfl (CW.ret (hE.r1 rfl rfl ?_)))
 exact ⟨congrArg (fun b => Ending.returned (.bool b)) (by decide +kernel), hS20.low⟩

end Go.Proofs.YtjfaikgooldcbaaGreatDoor
set_option maxRecDepth 100000
namespace Go.Proofs.YtjfaikgooldcbaaGreatDoor
open Go.Eng

/-- Two values are the same. -/
def sameV (a b : Vl) : Bool := decide (a = b)
theorem sameV_self (a : Vl) : sameV a a = true := decide_eq_true rfl
theorem sameV_len {a b : Vl} (h : ¬ len a = len b) : sameV a b = false := decide_eq_false fun e => h (by rw [e])
theorem sameV_bad {a b : Vl} {k : Int} (h : ¬ at' a k = at' b k) : sameV a b = false := decide_eq_false fun e => h (by rw [e])
theorem sameV_end {a b : Vl} {k : Int} (h : ∀ j, 0 ≤ j → j < k → at' a j = at' b j) (h1 : len a ≤ k) (h2 : len a = len b) : sameV a b = true := by
  refine decide_eq_true (List.ext_getElem (by unfold len at h2; omega) fun n h3 h4 => ?_)
  have := h (n : Int) (by omega) (by unfold len at h1; omega)
  unfold at' at this
  simpa [List.getD_eq_getElem?_getD, h3, h4] using this
/- loupe/louperef02.Same -/
theorem same2_c (M : Mem) (x y : Vl) (va vb : Value) (w : World) (hM : Sat w M) (ha : Sl M 6 x.length va (x.flatMap Nd.cells)) (hb : Sl M 6 y.length vb (y.flatMap Nd.cells)) :
  Calls Tryz.prog 13 [va, vb].toArray w fun e w' => e = .returned (.bool (sameV x y)) ∧ Ext w w' := by
 refine CW.enter1 Tryz.func13 rfl Tryz.ntmps13 (Nat.le_of_ble_eq_true rfl) fun Q hE => ?_
 have := len_nonneg x
 have hla : len x ≤ 9223372036854775807 := ha.le
 have hS : St w M w M [] := St.start hM
 refine CW.weaken [0, 1] (L' := [Y 0 va, Y 1 vb]) ?_ rfl
 refine CW.sr (RL.u (.assign .c) rfl (RL.nil (CW.id (CW.seq ?_))))
 refine CW.sr (RL.m rfl rfl (RL.u (.lenT ha (.t rfl) ⟨_, Tryz.underlying24⟩) rfl (RL.m rfl rfl (RL.u (.lenT hb (.t rfl) ⟨_, Tryz.underlying24⟩) rfl (RL.u (.neq (.t rfl) (.t rfl)) rfl (RL.nil (CW.id ?_)))))))
 refine CW.cond rfl ?_ ?_ <;> intro hb1 <;> try simp only [zb] at hb1
 ·refine CW.sr (RL.u (.assign .c) rfl (RL.nil (CW.id (CW.ret (hE.r1 rfl rfl ?_)))))
  exact ⟨by rw [sameV_len hb1], hS.low⟩
 ·refine CW.skip (CW.id (CW.seq (CW.sr (RL.u (.assign .c) rfl (RL.nil (CW.id ?_))))))
  refine CW.block ?_
  refine CW.loop (σ := Int) (fun k => [Y 0 va, Y 1 vb, Y 5 (i64 k)]) (fun k wl => St w M wl M [] ∧ Sl M 6 x.length va (x.flatMap Nd.cells) ∧ Sl M 6 y.length vb (y.flatMap Nd.cells) ∧ 0 ≤ k ∧ k ≤ len x ∧ (∀ j, 0 ≤ j → j < k → at' x j = at' y j)) (fun k => (len x - k).toNat) 0 [0, 1, 5] rfl ?_ ?_
  ·refine ⟨hS, ha, hb, ?_⟩; exact ⟨by omega, by omega, fun j h1 h2 => by omega⟩
  ·rintro k wl ⟨hS1, ha, hb, hk0, hk1, hkF⟩
   refine CW.seq (CW.sr (RL.m rfl rfl (RL.m rfl rfl (RL.u (.lenT ha (.t rfl) ⟨_, Tryz.underlying24⟩) rfl (RL.u (.lss (.t rfl) (.t rfl)) rfl (RL.nil (CW.id ?_)))))))
   refine CW.cond rfl ?_ ?_ <;> intro hb2 <;> try simp only [zb] at hb2
   ·refine CW.skip (CW.id (CW.seq (CW.block (CW.seq ?_))))
    refine CW.regionD hS1 tryz_mixed (by decide +kernel) ?_
    refine RQ.v .none (.move (.t rfl)) rfl ?_
    refine RQ.v .none (.move (.t rfl)) rfl ?_
    refine RQ.v .none (.idxT ha (.t rfl) (.t rfl) Tryz.underlying24 Tryz.sizeOf38 (fun _ => by omega)) rfl ?_
    refine RQ.v .none (.loadEN (f := Nd.cells) (i := k) hS1 (fun _ h => h) ha Nd.cells_len (.t rfl) Tryz.isAgg38 Tryz.sizeOf38 (fun _ => by omega)) rfl ?_
    refine RQ.v .none (.move (.t rfl)) rfl ?_
    refine RQ.v .none (.move (.t rfl)) rfl ?_
    refine RQ.v .none (.idxT hb (.t rfl) (.t rfl) Tryz.underlying24 Tryz.sizeOf38 (fun _ => by omega)) rfl ?_
    refine RQ.v .none (.loadEN (f := Nd.cells) (i := k) hS1 (fun _ h => h) hb Nd.cells_len (.t rfl) Tryz.isAgg38 Tryz.sizeOf38 (fun _ => by omega)) rfl ?_
    refine RQ.v .none (.bin (v := .bool (!(decide (((at' x k) : Nd) = (at' y k))))) (.t rfl) (.t rfl) (fun _ w _ => neNd _ _ ((at' x k)) ((at' y k)) w)) rfl ?_
    refine RQ.nil (fun a hs w2 hS3 => CW.at [Y 0 va, Y 1 vb, Y 5 (i64 k), Y 25 (.bool (!(decide (((at' x k) : Nd) = (at' y k)))))] rfl ?_ a hs)
    refine CW.cond rfl ?_ ?_ <;> intro hb3 <;> try simp only [zb] at hb3
    ·refine CW.sr (RL.u (.assign .c) rfl (RL.nil (CW.id (CW.ret (hE.r1 rfl rfl ?_)))))
     exact ⟨by rw [sameV_bad (k := k) hb3], hS3.low⟩
    ·refine CW.skip (CW.id ?_)
     refine CW.region (RL.m rfl rfl (RL.u (.add (.t rfl) .c (fun _ => by omega)) rfl (RL.a rfl rfl ?_)))
     refine RL.nil fun a hs => Exists.intro (k + 1) ⟨hs.keep [0, 1, 5], ?_, ?_⟩
     ·refine ⟨hS3, ha, hb, ?_⟩
      exact ⟨by omega, by omega, fun j h1 h2 => by rcases Int.lt_or_eq_of_le (show j ≤ k by omega) with h3 | rfl; exact hkF j h1 h3; exact hb3⟩
     ·show Int.toNat _ < Int.toNat _; omega
   ·refine CW.exit (CW.at [] rfl ?_)
    refine CW.sr (RL.u (.assign .c) rfl (RL.nil (CW.id (CW.ret (hE.r1 rfl rfl ?_)))))
    exact ⟨by rw [sameV_end hkF (by omega) (by omega)], hS1.low⟩

end Go.Proofs.YtjfaikgooldcbaaGreatDoor
set_option maxRecDepth 100000
namespace Go.Proofs.YtjfaikgooldcbaaGreatDoor
open Go.Eng

theorem parseO_c {w0 wv : World} {M0 M : Mem} {Rs : List HO} (s : Str) (hS : St w0 M0 wv M Rs) (hg : Gl w0) (hb : len s ≤ 1099511627776) :
  Calls Tryz.prog 11 [str s].toArray wv (ORet w0 M0 M Rs (fun h : SlH => .tuple #[h.v, i64 (parseT s).2.1, i64 (parseT s).2.2]) (fun _ => True) (fun h => [(0, kn h.v 6 (parseT s).1 Nd.cells)]) fun _ => []) :=
 (parse_c s hS hg hb).mono fun e w' ⟨u, he, a, c, M', hu, hsl, hS', hle⟩ => by
  subst hu; exact ⟨⟨a, _, c⟩, M', he, trivial, hle, hS', fc 0 hsl Nd.cells_len fnil⟩
end Go.Proofs.YtjfaikgooldcbaaGreatDoor
namespace Go.Eng
open Go.RowKit

theorem parse_er {s : Str} {c : UInt8} {q : Str} {ec p : Int} (hs : s = c :: q) (hh : headB c = true) (hv : valT (2 * s.length + 2) s 0 0 = .er ec p) : parseT s = ([], p, ec) := by
  have ha : At s 0 (c :: q) := ⟨Int.le_refl _, len_nonneg _, hs⟩
  unfold parseT
  rw [At.noblank ha (stop_head hh), hv]
end Go.Eng
namespace Go.Eng
open Go.RowKit

/-! ### a number's text -/
theorem AllF.left {a b : Str} (h : AllF (a ++ b)) : AllF a := fun x hx => h x (List.mem_append.2 (.inl hx))
/-- How a number's text goes on behind its first figures. -/
def TailN (w t : Str) : Prop := (t = [] ∧ len w ≤ 100) ∨ (∃ p, t = 46 :: p ∧ AllF p ∧ len w + len p ≤ 100) ∨
  (∃ g q, t = 101 :: (sgn g ++ q) ∧ AllF q ∧ len w ≤ 100 ∧ len (dropZ q) ≤ 6 ∧ -1000 ≤ (if g then -1 else 1) * decVal (dropZ q) ∧ (if g then -1 else 1) * decVal (dropZ q) + len w ≤ 1000)
theorem TailN.len {w t : Str} (h : TailN w t) : len w ≤ 100 := by
  rcases h with h | ⟨p, _, _, h⟩ | ⟨g, q, _, _, h, _⟩
  · exact h.2
  · have := len_nonneg p; omega
  · exact h
end Go.Eng
namespace Go.Eng
open Go.RowKit

theorem unqGo_agr {s s' : Str} {n : Int} (hn' : n ≤ len s') (ha : ∀ j, 0 ≤ j → j < n → byteAt s' j = byteAt s j) : ∀ (f f' : Nat) (i : Int) (acc : List Int) (x : Str), 0 ≤ i → i ≤ len s → unqGo f s i acc = (x, n, 0) → (len s' - i).toNat ≤ f' → unqGo f' s' i acc = (x, n, 0)
  | 0, _, _, _, _, _, _, h, _ => by unfold unqGo at h; simp at h
  | f + 1, f', i, acc, x, h0, hi, h, hf => by
    have hb := unqGo_bd (f := f + 1) (s := s) (i := i) (acc := acc) h0 hi
    rw [h] at hb
    dsimp only at hb
    have hin : i < n := hb.2.2.1 rfl
    have hl : i < len s := by omega
    have hl' : i < len s' := by omega
    rw [unqGo_eq hf hl']
    unfold unqGo at h
    rw [if_pos hl] at h
    have hby : byteAt s' i = byteAt s i := ha i h0 hin
    rw [runeAt_from s i h0, runeLen_from s i h0] at h
    rw [runeAt_from s' i h0, runeLen_from s' i h0]
    have low : ∀ c : Int, c < 128 → (runeAt s' i = c ↔ runeAt s i = c) := fun c hc => by rw [runeAt_low h0 hl hc, runeAt_low h0 hl' hc, hby]
    by_cases c1 : runeAt s i = 34
    · rw [if_pos c1] at h; rw [if_pos ((low 34 (by omega)).2 c1)]; exact h
    rw [if_neg c1] at h
    rw [if_neg (fun e => c1 ((low 34 (by omega)).1 e))]
    by_cases c2 : runeAt s i = 92
    · rw [if_pos c2] at h; rw [if_pos ((low 92 (by omega)).2 c2)]
      by_cases c3 : (escP (from' s i)).2 = 0
      · rw [if_pos c3] at h; simp at h
      rw [if_neg c3] at h
      have hfl := from_len s i h0 hi
      have hfl' := from_len s' i h0 (by omega)
      have he := escP_le (from' s i)
      have hb2 := unqGo_bd (f := f) (s := s) (i := i + (escP (from' s i)).2) (acc := acc ++ Lib.encodeRuneZ (escP (from' s i)).1) (by omega) (by omega)
      rw [h] at hb2
      dsimp only at hb2
      have := hb2.2.2.1 rfl
      have e : escP (from' s' i) = escP (from' s i) := esc_agr c3 (by omega) (fun j a b => by rw [byteAt_from _ _ _ h0 a, byteAt_from _ _ _ h0 a]; exact ha _ (by omega) (by omega))
      rw [e, if_neg c3]
      exact unqGo_agr hn' ha f (f' - 1) _ _ x (by omega) (by omega) h (by omega)
    · rw [if_neg c2] at h
      rw [if_neg (fun e => c2 ((low 92 (by omega)).1 e))]
      by_cases c3 : runeAt s i < 32 ∨ (runeAt s i = 65533 ∧ runeLen s i = 1)
      · rw [if_pos c3] at h; simp at h
      rw [if_neg c3] at h
      have hr := runeLen_bd h0 hl
      have hv : rune s i ≠ 0 := fun e => c3 (.inr ((rune_none h0 hl).1 e))
      have hrb := rune_bd s i
      have hre : runeLen s i = rune s i := by rcases rune_dec h0 hl with d | d <;> omega
      have hb2 := unqGo_bd (f := f) (s := s) (i := i + runeLen s i) (acc := acc ++ Lib.encodeRuneZ (runeAt s i)) (by omega) (by omega)
      rw [h] at hb2
      dsimp only at hb2
      have := hb2.2.2.1 rfl
      obtain ⟨_, e2, e3⟩ := rune_agr (s := s) (s' := s') (i := i) (i' := i) h0 h0 (by omega) hl (by omega) (fun j a b => ha _ (by omega) (by omega))
      rw [e2, e3, if_neg c3]
      exact unqGo_agr hn' ha f (f' - 1) _ _ x (by omega) (by omega) h (by omega)
theorem unq_agr {u v v' : Str} {x : Str} (h : unqP (u ++ v) = (x, len u, 0)) : unqP (u ++ v') = (x, len u, 0) := by
  have hb := unqP_bd (u ++ v)
  rw [h] at hb
  dsimp only at hb
  have h2 : 2 ≤ len u := hb.2.2.1 rfl
  have ha : ∀ j, 0 ≤ j → j < len u → byteAt (u ++ v') j = byteAt (u ++ v) j := fun j a b => by rw [byteAt_l a b, byteAt_l a b]
  have hv := len_app u v
  have hv' := len_app u v'
  have p1 := len_nonneg v
  have p2 := len_nonneg v'
  have hne : ∀ w : Str, ¬ u ++ w = [] := fun w e => by have := congrArg len e; rw [len_app, len_nil] at this; have := len_nonneg w; omega
  unfold unqP at h ⊢
  by_cases c : Lib.hasPrefix (u ++ v) [34] = true
  · rw [if_pos c] at h
    rw [if_pos (pre_one.2 ⟨hne v', by rw [ha 0 (by omega) (by omega)]; exact (pre_one.1 c).2⟩)]
    exact unqGo_agr (n := len u) (by omega) ha _ _ 1 [] x (by omega) (by omega) h (by unfold len; omega)
  · rw [if_neg c] at h; simp at h
end Go.Eng
namespace Go.Eng
open Go.RowKit

def ErR {α : Type} (r : PR α) : Prop := ∃ p, r = .er 1 p
/-- An error, or something up to the text's end. -/
def CutR {α : Type} (s : Str) (r : PR α) : Prop := ErR r ∨ ∃ x, r = .ok x (len s)
theorem ErR.map {α β : Type} {f : α → β} {r : PR α} (h : ErR r) : ErR (mapR f r) := by obtain ⟨p, rfl⟩ := h; exact ⟨p, rfl⟩
theorem CutR.map {α β : Type} {f : α → β} {s : Str} {r : PR α} (h : CutR s r) : CutR s (mapR f r) := by
  rcases h with h | ⟨x, rfl⟩
  · exact .inl h.map
  · exact .inr ⟨f x, rfl⟩
theorem blank_end (s : Str) : blankTo s (len s) = len s := by
  have := blankTo_bd s (len s) (len_nonneg s) (Int.le_refl _); omega
theorem has_end (s : Str) (c : UInt8) : hasW s (len s) [c] = false := by
  cases h : hasW s (len s) [c] with
  | false => rfl
  | true => have := hasW_le (len_nonneg s) (Int.le_refl _) h; rw [len_cons, len_nil] at this; omega
theorem CutR.more {α : Type} {s : Str} {c : UInt8} {r : PR α} {go : α → Int → PR α} (h : CutR s r) : ErR (moreT s [c] r go) := by
  rcases h with ⟨p, rfl⟩ | ⟨x, rfl⟩
  · exact ⟨p, rfl⟩
  · exact ⟨_, moreT_bad (by rw [blank_end]; exact has_end s c) (by rw [blank_end]; exact has_end s 44)⟩
theorem At.all {s : Str} {i : Int} (h : At s i []) : i = len s := by
  have := from_len s i h.1 h.2.1
  rw [h.2.2, len_nil] at this; omega
theorem At.end_ {s : Str} {i : Int} {u : Str} (h : At s i u) : i + len u = len s := by
  have := from_len s i h.1 h.2.1
  rw [h.2.2] at this; omega
theorem val_end {s : Str} {i d : Int} (h : At s i []) : ∀ f, ErR (valT f s i d)
  | 0 => ⟨i, by rw [valT]⟩
  | f + 1 => ⟨i, by rw [valT, if_neg (by rw [At.nil_has h]; decide), if_neg (by rw [At.nil_has h]; decide), if_neg (by rw [At.nil_has h]; decide), if_pos h.all]⟩
theorem text_end {s : Str} {i : Int} (h : At s i []) : ErR (textT s i) := by
  have hu : (unqP (from' s i)).2.2 = 1 := by rw [h.2.2]; decide +kernel
  exact ⟨_, by rw [textT_er (by omega), hu]⟩
theorem items_end {s : Str} {i d : Int} {l : List Vl} (h : At s i []) : ∀ f, ErR (itemsT f s d l i)
  | 0 => ⟨i, by rw [itemsT]⟩
  | f + 1 => by rw [itemsT]; exact CutR.more (.inl (val_end h f).map)
theorem pairs_end {s : Str} {i d : Int} {m : List (Str × Vl)} (h : At s i []) : ∀ f, ErR (pairsT f s d m i)
  | 0 => ⟨i, by rw [pairsT]⟩
  | f + 1 => by
    obtain ⟨p, hp⟩ := text_end h
    rw [pairsT]; exact CutR.more (.inl ⟨p, pairT_txt1 hp⟩)
theorem no_words {s : Str} {i : Int} {c : UInt8} {u : Str} (h : At s i (c :: u)) (hc : c ≠ 110 ∧ c ≠ 102 ∧ c ≠ 116) : NoW s i 3 := by
  intro m hm0 hm3
  rcases (by omega : m = 0 ∨ m = 1 ∨ m = 2) with rfl | rfl | rfl
  · exact At.hasNo h (fun e => hc.1 e.symm)
  · exact At.hasNo h (fun e => hc.2.1 e.symm)
  · exact At.hasNo h (fun e => hc.2.2 e.symm)
/-! ### with less fuel: the same, or an error -/
def FuR {α : Type} (r r' : PR α) : Prop := r = r' ∨ ErR r
theorem FuR.map {α β : Type} {f : α → β} {r r' : PR α} (h : FuR r r') : FuR (mapR f r) (mapR f r') := by
  rcases h with rfl | h
  · exact .inl rfl
  · exact .inr h.map
theorem FuR.more {α : Type} {s e : Str} {r r' : PR α} {go go' : α → Int → PR α} (h : FuR r r') (hg : ∀ x j, FuR (go x j) (go' x j)) : FuR (moreT s e r go) (moreT s e r' go') := by
  rcases h with rfl | ⟨p, rfl⟩
  · cases r with
    | er c p => exact .inl rfl
    | ok x j =>
      unfold moreT
      dsimp only
      split
      · exact .inl rfl
      · split
        · exact hg _ _
        · exact .inl rfl
  · exact .inr ⟨p, rfl⟩
theorem FuR.parts {α : Type} {s e : Str} {i : Int} {x : α} {go go' : α → Int → PR α} (hg : ∀ x j, FuR (go x j) (go' x j)) : FuR (partsT s i e x go) (partsT s i e x go') := by
  unfold partsT
  split
  · exact .inl rfl
  · exact hg _ _
theorem FuR.pair {s : Str} {i : Int} {v v' : Int → PR Vl} {m : List (Str × Vl)} (hg : ∀ k, FuR (v k) (v' k)) : FuR (pairT s i v m) (pairT s i v' m) := by
  unfold pairT
  cases textT s i with
  | er c p => exact .inl rfl
  | ok n j =>
    dsimp only
    split
    · exact (hg _).map
    · exact .inl rfl
theorem fuel_step : ∀ f : Nat, (∀ s i d, FuR (valT f s i d) (valT (f + 1) s i d)) ∧ (∀ s d l i, FuR (itemsT f s d l i) (itemsT (f + 1) s d l i)) ∧ (∀ s d m i, FuR (pairsT f s d m i) (pairsT (f + 1) s d m i)) := by
  intro f
  induction f with
  | zero => exact ⟨fun s i d => .inr ⟨i, by rw [valT]⟩, fun s d l i => .inr ⟨i, by rw [itemsT]⟩, fun s d l i => .inr ⟨i, by rw [pairsT]⟩⟩
  | succ f ih =>
    refine ⟨fun s i d => ?_, fun s d l i => ?_, fun s d m i => ?_⟩
    · rw [valT, valT]
      repeat' split
      all_goals first
        | exact .inl rfl
        | exact (FuR.parts fun x j => ih.2.1 s d x j).map
        | exact (FuR.parts fun x j => ih.2.2 s d x j).map
    · rw [itemsT, itemsT]
      exact (ih.1 s i (d + 1)).map.more fun x j => ih.2.1 s d x j
    · rw [pairsT, pairsT]
      exact (FuR.pair fun k => ih.1 s k (d + 1)).more fun x j => ih.2.2 s d x j
theorem fuel_add (f : Nat) (s : Str) (i d : Int) : ∀ k : Nat, FuR (valT f s i d) (valT (f + k) s i d)
  | 0 => .inl rfl
  | k + 1 => by
    rcases fuel_add f s i d k with h | h
    · rw [h]; exact (fuel_step (f + k)).1 s i d
    · exact .inr h
end Go.Eng
namespace Go.Eng
open Go.RowKit

/-- The marks [ and {. -/
def mkB (c : UInt8) : Bool := c == 91 || c == 123
def mkN (u : Str) : Int := ((u.countP mkB : Nat) : Int)
theorem mkN_app (u v : Str) : mkN (u ++ v) = mkN u + mkN v := by unfold mkN; rw [List.countP_append]; omega
theorem mkN_nonneg (u : Str) : 0 ≤ mkN u := by unfold mkN; omega
theorem mkN_from {s : Str} {i j : Int} (h0 : 0 ≤ i) (h1 : i ≤ j) (h2 : j ≤ len s) : mkN (from' s j) ≤ mkN (from' s i) := by
  have h := from_from s i (j - i) h0 (by omega)
  have hl := from_len s i h0 (by omega)
  have hs := (sub_from_split (s := from' s i) (n := j - i) (by omega) (by omega)).1
  rw [h, show i + (j - i) = j by omega] at hs
  rw [hs, mkN_app]
  have := mkN_nonneg (Eng.sub (from' s i) 0 (j - i)); omega
theorem mkN_step {s : Str} {i : Int} (h0 : 0 ≤ i) (h1 : i < len s) (h : byteAt s i = 91 ∨ byteAt s i = 123) : mkN (from' s (i + 1)) + 1 = mkN (from' s i) := by
  obtain ⟨b, hb, he⟩ := from_cons s i h0 h1
  have hm : mkB b = true := by
    rcases h with h | h
    · have : b = 91 := UInt8.toNat_inj.1 (by rw [show (91 : UInt8).toNat = 91 from rfl]; omega)
      subst this; rfl
    · have : b = 123 := UInt8.toNat_inj.1 (by rw [show (123 : UInt8).toNat = 123 from rfl]; omega)
      subst this; rfl
  rw [hb]; unfold mkN; rw [List.countP_cons_of_pos hm]; omega
theorem tw_app {p : UInt8 → Bool} {c : UInt8} {q : Str} (hc : p c = false) : ∀ u : Str, (u ++ c :: q).takeWhile p = u.takeWhile p
  | [] => by rw [List.nil_append, List.takeWhile_cons, hc]; rfl
  | a :: u => by rw [List.cons_append, List.takeWhile_cons, List.takeWhile_cons, tw_app hc u]
theorem has_app {u t : Str} {c : UInt8} {q : Str} (hc : c ∉ t) : Lib.hasPrefix (u ++ c :: q) t = Lib.hasPrefix u t := by
  unfold Lib.hasPrefix
  rw [Bool.eq_iff_iff, List.isPrefixOf_iff_prefix, List.isPrefixOf_iff_prefix]
  refine ⟨fun ⟨z, h⟩ => ?_, fun ⟨z, h⟩ => ⟨z ++ c :: q, by rw [← h, List.append_assoc]⟩⟩
  rcases List.append_eq_append_iff.1 h with ⟨a, h1, _⟩ | ⟨a, h1, h2⟩
  · exact ⟨a, h1.symm⟩
  · cases a with
    | nil => exact ⟨[], by rw [h1]; simp⟩
    | cons x a => exact absurd (by rw [h1]; simp [(List.cons.inj h2).1]) hc

/-- s stands in S from k on, and behind it a mark that ends a value. -/
structure In (s S : Str) (k : Int) (c : UInt8) (q : Str) : Prop where
  here : At S k (s ++ c :: q)
  mark : c = 44 ∨ c = 93 ∨ c = 125
variable {s S : Str} {k : Int} {c : UInt8} {q : Str}
theorem In.at_ (h : In s S k c q) {i : Int} (h0 : 0 ≤ i) (h1 : i ≤ len s) : At S (k + i) (from' s i ++ c :: q) := by
  have hs := sub_from_split h0 h1
  have := h.here
  rw [hs.1, List.append_assoc] at this
  have := At.add this
  rw [hs.2] at this; exact this
theorem In.has (h : In s S k c q) {i : Int} (h0 : 0 ≤ i) (h1 : i ≤ len s) {t : Str} (ht : 44 ∉ t ∧ 93 ∉ t ∧ 125 ∉ t) : hasW S (k + i) t = hasW s i t := by
  unfold hasW
  rw [(h.at_ h0 h1).2.2]
  refine has_app ?_
  rcases h.mark with rfl | rfl | rfl
  · exact ht.1
  · exact ht.2.1
  · exact ht.2.2
theorem In.has1 (h : In s S k c q) {i : Int} (h0 : 0 ≤ i) (h1 : i < len s) {x : UInt8} : hasW S (k + i) [x] = hasW s i [x] := by
  obtain ⟨b, hb, _⟩ := from_cons s i h0 h1
  have ha := h.at_ h0 (by omega)
  rw [hb] at ha
  rw [At.has1 ha, At.has1 (s := s) ⟨h0, by omega, hb⟩]
theorem In.byte (h : In s S k c q) {i : Int} (h0 : 0 ≤ i) (h1 : i < len s) : byteAt S (k + i) = byteAt s i := by
  obtain ⟨b, hb, he⟩ := from_cons s i h0 h1
  have ha := h.at_ h0 (by omega)
  rw [hb] at ha
  rw [At.byte ha, he]
theorem In.blank (h : In s S k c q) {i : Int} (h0 : 0 ≤ i) (h1 : i ≤ len s) : blankTo S (k + i) = k + blankTo s i := by
  unfold blankTo
  have hc : isBlankB c = false := by rcases h.mark with rfl | rfl | rfl <;> rfl
  rw [(h.at_ h0 h1).2.2, tw_app hc]; omega
theorem In.text (h : In s S k c q) {i : Int} (h0 : 0 ≤ i) (h1 : i ≤ len s) {x : Str} {j : Int} (ht : textT s i = .ok x j) : i ≤ j ∧ j ≤ len s ∧ textT S (k + i) = .ok x (k + j) := by
  have hb := unqP_bd (from' s i)
  have hl := from_len s i h0 h1
  by_cases hu : (unqP (from' s i)).2.2 = 0
  · rw [textT_ok hu] at ht
    obtain ⟨rfl, rfl⟩ := PR.ok.inj ht
    refine ⟨by omega, by omega, ?_⟩
    have hs := sub_from_split (s := from' s i) (n := (unqP (from' s i)).2.1) hb.1 hb.2.1
    have h2 : unqP (Eng.sub (from' s i) 0 (unqP (from' s i)).2.1 ++ from' (from' s i) (unqP (from' s i)).2.1) = ((unqP (from' s i)).1, len (Eng.sub (from' s i) 0 (unqP (from' s i)).2.1), 0) := by
      rw [← hs.1, hs.2, ← hu]
    have h3 := unq_agr (v' := from' (from' s i) (unqP (from' s i)).2.1 ++ c :: q) h2
    rw [← List.append_assoc, ← hs.1, hs.2, ← (h.at_ h0 h1).2.2] at h3
    rw [textT_ok (by rw [h3]), h3]
    show PR.ok _ (k + i + (unqP (from' s i)).2.1) = PR.ok _ _
    congr 1; omega
  · rw [textT_er hu] at ht; cases ht
theorem In.num (h : In s S k c q) {i : Int} (h0 : 0 ≤ i) (h1 : i ≤ len s) {x : Vl} {j : Int} (ht : numT s i = .ok x j) : i ≤ j ∧ j ≤ len s ∧ numT S (k + i) = .ok x (k + j) := by
  have hc : isNumB c = false := by rcases h.mark with rfl | rfl | rfl <;> rfl
  have hr : runN (from' S (k + i)) = runN (from' s i) := by rw [runN_take, runN_take, (h.at_ h0 h1).2.2, tw_app hc]
  have hl := from_len s i h0 h1
  have hn := runN_le (from' s i)
  by_cases hu : (read1 (runN (from' s i))).2.2 = 0
  · rw [numT_ok hu] at ht
    obtain ⟨rfl, rfl⟩ := PR.ok.inj ht
    refine ⟨by omega, by omega, ?_⟩
    rw [numT_ok (by rw [hr]; exact hu), hr]
    congr 1; omega
  · rw [numT_er hu] at ht; cases ht
theorem In.map {α β : Type} {f : α → β} {r r' : PR α} {a : Int} {y : β} {j : Int} (hr : ∀ x j, r = .ok x j → a ≤ j ∧ j ≤ len s ∧ r' = .ok x (k + j)) (h : mapR f r = .ok y j) : a ≤ j ∧ j ≤ len s ∧ mapR f r' = .ok y (k + j) := by
  obtain ⟨x, h1, rfl⟩ := mapR_ok h
  obtain ⟨h2, h3, rfl⟩ := hr x j h1
  exact ⟨h2, h3, rfl⟩
theorem In.more (h : In s S k c q) {α : Type} {e : UInt8} (he : e ≠ 44) {r r' : PR α} {go go' : α → Int → PR α} {a : Int} (ha : 0 ≤ a) {x : α} {j : Int}
    (hr : ∀ y p, r = .ok y p → a ≤ p ∧ p ≤ len s ∧ r' = .ok y (k + p)) (hgo : ∀ y p, a ≤ p → p ≤ len s → go y p = .ok x j → p ≤ j ∧ j ≤ len s ∧ go' y (k + p) = .ok x (k + j))
    (hm : moreT s [e] r go = .ok x j) : a ≤ j ∧ j ≤ len s ∧ moreT S [e] r' go' = .ok x (k + j) := by
  cases r with
  | er c p => cases hm
  | ok y p =>
    obtain ⟨h1, h2, rfl⟩ := hr y p rfl
    have hb := blankTo_bd s p (by omega) h2
    have hB := h.blank (i := p) (by omega) h2
    cases h3 : hasW s (blankTo s p) [e] with
    | true =>
      have hlt := hasW_le (by omega) hb.2 h3
      rw [len_cons, len_nil] at hlt
      rw [moreT_end h3] at hm
      obtain ⟨rfl, rfl⟩ := PR.ok.inj hm
      refine ⟨by omega, by omega, ?_⟩
      rw [moreT_end (by rw [hB, h.has1 (by omega) (by omega)]; exact h3), hB]
      congr 1; omega
    | false =>
      cases h4 : hasW s (blankTo s p) [44] with
      | false => rw [moreT_bad h3 h4] at hm; cases hm
      | true =>
        have hlt := hasW_le (by omega) hb.2 h4
        rw [len_cons, len_nil] at hlt
        rw [moreT_more h3 h4] at hm
        have hb2 := blankTo_bd s (blankTo s p + 1) (by omega) (by omega)
        have hB2 := h.blank (i := blankTo s p + 1) (by omega) (by omega)
        obtain ⟨h5, h6, h7⟩ := hgo y _ (by omega) hb2.2 hm
        refine ⟨by omega, h6, ?_⟩
        rw [moreT_more (by rw [hB, h.has1 (by omega) (by omega)]; exact h3) (by rw [hB, h.has1 (by omega) (by omega)]; exact h4), hB, show k + blankTo s p + 1 = k + (blankTo s p + 1) by omega, hB2]
        exact h7
theorem In.parts (h : In s S k c q) {α : Type} {e : UInt8} {x0 x : α} {go go' : α → Int → PR α} {i : Int} (h0 : 0 ≤ i) (h1 : i < len s) {j : Int} (hend : ErR (go x0 (len s)))
    (hgo : ∀ p, i + 1 ≤ p → p ≤ len s → go x0 p = .ok x j → p ≤ j ∧ j ≤ len s ∧ go' x0 (k + p) = .ok x (k + j))
    (hm : partsT s i [e] x0 go = .ok x j) : i ≤ j ∧ j ≤ len s ∧ partsT S (k + i) [e] x0 go' = .ok x (k + j) := by
  have hb := blankTo_bd s (i + 1) (by omega) (by omega)
  have hB := h.blank (i := i + 1) (by omega) (by omega)
  rw [← Int.add_assoc] at hB
  cases h3 : hasW s (blankTo s (i + 1)) [e] with
  | true =>
    have hlt := hasW_le (by omega) hb.2 h3
    rw [len_cons, len_nil] at hlt
    rw [partsT_end h3] at hm
    obtain ⟨rfl, rfl⟩ := PR.ok.inj hm
    refine ⟨by omega, by omega, ?_⟩
    rw [partsT_end (by rw [hB, h.has1 (by omega) (by omega)]; exact h3), hB]
    congr 1; omega
  | false =>
    rw [partsT_go h3] at hm
    rcases (by omega : blankTo s (i + 1) = len s ∨ blankTo s (i + 1) < len s) with h4 | h4
    · rw [h4] at hm
      obtain ⟨p, hp⟩ := hend
      rw [hp] at hm; cases hm
    · obtain ⟨h5, h6, h7⟩ := hgo _ (by omega) hb.2 hm
      refine ⟨by omega, h6, ?_⟩
      rw [partsT_go (by rw [hB, h.has1 (by omega) h4]; exact h3), hB]; exact h7
theorem In.pair (h : In s S k c q) {v v' : Int → PR Vl} {m : List (Str × Vl)} {i : Int} (h0 : 0 ≤ i) (h1 : i ≤ len s) {y : List (Str × Vl)} {j : Int}
    (hv : ∀ p x j, i ≤ p → p ≤ len s → v p = .ok x j → p ≤ j ∧ j ≤ len s ∧ v' (k + p) = .ok x (k + j)) (hm : pairT s i v m = .ok y j) : i ≤ j ∧ j ≤ len s ∧ pairT S (k + i) v' m = .ok y (k + j) := by
  rcases ht : textT s i with ⟨n, p⟩ | ⟨e, p⟩
  · obtain ⟨h2, h3, h4⟩ := h.text h0 h1 ht
    have hb := blankTo_bd s p (by omega) h3
    have hB := h.blank (i := p) (by omega) h3
    cases h5 : hasW s (blankTo s p) [58] with
    | false => rw [pairT_bad ht h5] at hm; cases hm
    | true =>
      have hlt := hasW_le (by omega) hb.2 h5
      rw [len_cons, len_nil] at hlt
      have hb2 := blankTo_bd s (blankTo s p + 1) (by omega) (by omega)
      have hB2 := h.blank (i := blankTo s p + 1) (by omega) (by omega)
      rw [pairT_val ht h5] at hm
      rw [pairT_val h4 (by rw [hB, h.has1 (by omega) (by omega)]; exact h5), hB, show k + blankTo s p + 1 = k + (blankTo s p + 1) by omega, hB2]
      have := In.map (s := s) (k := k) (fun x j e => hv _ x j (by omega) hb2.2 e) hm
      exact ⟨by omega, this.2.1, this.2.2⟩
  · rw [pairT_txt1 ht] at hm; cases hm
theorem in_all (h : In s S k c q) : ∀ f : Nat,
    (∀ i d x j, 0 ≤ i → i ≤ len s → d + mkN (from' s i) < 128 → valT f s i d = .ok x j → i ≤ j ∧ j ≤ len s ∧ valT f S (k + i) (d + 1) = .ok x (k + j)) ∧
    (∀ i d l x j, 0 ≤ i → i ≤ len s → d + 1 + mkN (from' s i) < 128 → itemsT f s d l i = .ok x j → i ≤ j ∧ j ≤ len s ∧ itemsT f S (d + 1) l (k + i) = .ok x (k + j)) ∧
    (∀ i d m x j, 0 ≤ i → i ≤ len s → d + 1 + mkN (from' s i) < 128 → pairsT f s d m i = .ok x j → i ≤ j ∧ j ≤ len s ∧ pairsT f S (d + 1) m (k + i) = .ok x (k + j)) := by
  intro f
  induction f with
  | zero =>
    refine ⟨fun i d x j _ _ _ e => ?_, fun i d l x j _ _ _ e => ?_, fun i d l x j _ _ _ e => ?_⟩
    · rw [valT] at e; cases e
    · rw [itemsT] at e; cases e
    · rw [pairsT] at e; cases e
  | succ f ih =>
    obtain ⟨hv, hi, hp⟩ := ih
    refine ⟨fun i d x j h0 h1 hd e => ?_, fun i d l x j h0 h1 hd e => ?_, fun i d l x j h0 h1 hd e => ?_⟩
    · rw [valT] at e ⊢
      rw [h.has h0 h1 (by decide), h.has h0 h1 (by decide), h.has h0 h1 (by decide)]
      split at e
      · rename_i hw
        obtain ⟨rfl, rfl⟩ := PR.ok.inj e
        have := hasW_le h0 h1 hw
        simp only [len_cons, len_nil] at this
        rw [if_pos hw]; exact ⟨by omega, by omega, by congr 1; omega⟩
      rename_i hw; rw [if_neg hw]
      split at e
      · rename_i hw
        obtain ⟨rfl, rfl⟩ := PR.ok.inj e
        have := hasW_le h0 h1 hw
        simp only [len_cons, len_nil] at this
        rw [if_pos hw]; exact ⟨by omega, by omega, by congr 1; omega⟩
      rename_i hw; rw [if_neg hw]
      split at e
      · rename_i hw
        obtain ⟨rfl, rfl⟩ := PR.ok.inj e
        have := hasW_le h0 h1 hw
        simp only [len_cons, len_nil] at this
        rw [if_pos hw]; exact ⟨by omega, by omega, by congr 1; omega⟩
      rename_i hw; rw [if_neg hw]
      split at e
      · cases e
      rename_i hlt
      have hlt : i < len s := by omega
      have hL := (h.at_ h0 h1).end_
      rw [len_app, from_len s i h0 h1, len_cons] at hL
      have hq := len_nonneg q
      rw [if_neg (by omega), h.byte h0 hlt]
      split at e
      · rw [if_pos (by assumption)]
        exact In.map (s := s) (k := k) (fun x j e => h.text h0 h1 e) e
      rw [if_neg (by assumption)]
      split at e
      · rw [if_pos (by assumption)]; exact h.num h0 h1 e
      rw [if_neg (by assumption)]
      split at e
      · cases e
      rename_i hbr
      rw [if_neg hbr]
      split at e
      · cases e
      have hst := mkN_step h0 hlt (by omega)
      have hnn := mkN_nonneg (from' s (i + 1))
      rw [if_neg (by omega)]
      split at e
      · rw [if_pos (by assumption)]
        refine In.map (s := s) (k := k) (fun x j e => h.parts h0 hlt (items_end ⟨len_nonneg s, Int.le_refl _, ?_⟩ f) (fun p h2 h3 h4 => ?_) e) e
        · exact len_zero.1 (by rw [from_len s _ (len_nonneg s) (Int.le_refl _)]; omega)
        · have := mkN_from (s := s) (i := i + 1) (by omega) h2 h3
          exact hi p d [] x j (by omega) h3 (by omega) h4
      · rw [if_neg (by assumption)]
        refine In.map (s := s) (k := k) (fun x j e => h.parts h0 hlt (pairs_end ⟨len_nonneg s, Int.le_refl _, ?_⟩ f) (fun p h2 h3 h4 => ?_) e) e
        · exact len_zero.1 (by rw [from_len s _ (len_nonneg s) (Int.le_refl _)]; omega)
        · have := mkN_from (s := s) (i := i + 1) (by omega) h2 h3
          exact hp p d [] x j (by omega) h3 (by omega) h4
    · rw [itemsT] at e ⊢
      refine h.more (by decide) h0 (fun y p e => In.map (s := s) (k := k) (fun x j e => hv i (d + 1) x j h0 h1 hd e) e) (fun y p h2 h3 h4 => ?_) e
      have := mkN_from h0 h2 h3
      exact hi p d y x j (by omega) h3 (by omega) h4
    · rw [pairsT] at e ⊢
      refine h.more (by decide) h0 (fun y p e => h.pair h0 h1 (fun p x j h2 h3 e => ?_) e) (fun y p h2 h3 h4 => ?_) e
      · have := mkN_from h0 h2 h3
        exact hv p (d + 1) x j (by omega) h3 (by omega) e
      · have := mkN_from h0 h2 h3
        exact hp p d y x j (by omega) h3 (by omega) h4
end Go.Eng
namespace Go.Eng
open Go.RowKit

/-- A whole text is read as this. -/
def Reads (a : Str) (x : Vl) : Prop := ∃ j, valT (2 * a.length + 2) a (blankTo a 0) 0 = .ok x j ∧ blankTo a j = len a
theorem reads_of {a : Str} (h : (parseT a).2.2 = 0) : Reads a (parseT a).1 := by
  have hs := len_nonneg a
  have hb := blankTo_bd a 0 (Int.le_refl 0) hs
  have hv := (val_ok (s := a) (2 * a.length + 2)).1 (blankTo a 0) 0 (by omega) hb.2 (by omega) (by omega)
  unfold Reads
  unfold parseT at h ⊢
  rcases hr : valT (2 * a.length + 2) a (blankTo a 0) 0 with ⟨x, j⟩ | ⟨e, p⟩
  · rw [hr] at h hv
    have h2 : 0 ≤ j ∧ j ≤ len a := hv.2.2
    have hb2 := blankTo_bd a j h2.1 h2.2
    by_cases h3 : blankTo a j < len a
    · simp only [if_pos h3] at h; cases h
    · refine ⟨j, ?_, by omega⟩
      simp only [if_neg h3]
  · rw [hr] at h hv
    exact absurd h hv.1
theorem reads_ne {a : Str} {x : Vl} (h : Reads a x) : x ≠ [] := by obtain ⟨j, h, _⟩ := h; exact valT_ne h
theorem val_no {f : Nat} {s : Str} {i d : Int} {c : UInt8} {r : Str} (ha : At s i (c :: r)) (hc : c = 93 ∨ c = 125) : valT f s i d = .er 1 i := by
  cases f with
  | zero => rw [valT]
  | succ f =>
    have hby := At.byte ha
    have hlt := At.lt ha
    have hno : NoW s i 3 := no_words ha (by rcases hc with rfl | rfl <;> decide)
    have hby2 : byteAt s i = 93 ∨ byteAt s i = 125 := by
      rcases hc with rfl | rfl
      · exact .inl hby
      · exact .inr hby
    rw [valT_go f d hno, if_neg (by omega), if_neg (by omega), if_neg (by rcases hby2 with h | h <;> rw [h] <;> decide), if_pos (by omega)]
/-- A text that is read, within a longer one. -/
theorem part_of {a S : Str} {k : Int} {c : UInt8} {q : Str} {x : Vl} (h : In a S k c q) (hr : Reads a x) (hm : mkN a < 128) {F : Nat} (hF : 2 * a.length + 2 ≤ F) :
    ∃ j, valT F S (blankTo S k) (0 + 1) = .ok x j ∧ blankTo S j = k + len a ∧ hasW S (blankTo S k) [93] = false ∧ hasW S (blankTo S k) [125] = false := by
  obtain ⟨j, h1, h2⟩ := hr
  have hs := len_nonneg a
  have hb := blankTo_bd a 0 (Int.le_refl 0) hs
  have h0 : mkN (from' a (blankTo a 0)) < 128 := by
    have := mkN_from (s := a) (Int.le_refl 0) hb.1 hb.2
    have e : from' a 0 = a := rfl
    rw [e] at this; omega
  obtain ⟨h3, h4, h5⟩ := (in_all h _).1 _ 0 x j hb.1 hb.2 (by omega) h1
  have hB := h.blank (i := 0) (Int.le_refl 0) hs
  rw [Int.add_zero] at hB
  have hf := fuel_add (2 * a.length + 2) S (k + blankTo a 0) (0 + 1) (F - (2 * a.length + 2))
  rw [show 2 * a.length + 2 + (F - (2 * a.length + 2)) = F by omega, h5] at hf
  have hv : valT F S (blankTo S k) (0 + 1) = .ok x (k + j) := by
    rw [hB]
    rcases hf with hf | ⟨p, hp⟩
    · exact hf.symm
    · cases hp
  have key : ∀ c, (c = 93 ∨ c = 125) → hasW S (blankTo S k) [c] = false := by
    intro c hc
    cases hw : hasW S (blankTo S k) [c] with
    | false => rfl
    | true =>
      exfalso
      have hk := h.here
      have hz := h.at_ (i := blankTo a 0) hb.1 hb.2
      rw [← hB] at hz
      rcases hu : from' S (blankTo S k) with _ | ⟨b, u⟩
      · rw [At.nil_has ⟨hz.1, hz.2.1, hu⟩] at hw; cases hw
      · have hz2 : At S (blankTo S k) (b :: u) := ⟨hz.1, hz.2.1, hu⟩
        rw [At.has1 hz2] at hw
        have : c = b := by simpa using hw
        subst this
        rw [val_no hz2 hc] at hv; cases hv
  exact ⟨k + j, hv, by rw [h.blank (by omega) h4, h2], key 93 (.inl rfl), key 125 (.inr rfl)⟩
theorem more_at {α : Type} {S : Str} {k : Int} {e : UInt8} {q : Str} {x : α} {j : Int} {go : α → Int → PR α} (h : At S k (e :: q)) (hj : blankTo S j = k) : moreT S [e] (.ok x j) go = .ok x (k + 1) := by
  rw [moreT_end (by rw [hj, At.has1 h]; simp), hj]
theorem more_on {α : Type} {S : Str} {k : Int} {e : UInt8} (he : e ≠ 44) {q : Str} {x : α} {j : Int} {go : α → Int → PR α} (h : At S k (44 :: q)) (hj : blankTo S j = k) : moreT S [e] (.ok x j) go = go x (blankTo S (k + 1)) := by
  rw [moreT_more (by rw [hj, At.has1 h]; simpa using he) (by rw [hj, At.has1 h]; rfl), hj]
theorem parse_of {S : Str} {c : UInt8} {q : Str} {v : Vl} (h : S = c :: q) (hc : isBlankB c = false) (hv : valT (2 * S.length + 2) S 0 0 = .ok v (len S)) : parseT S = (v, 0, 0) := by
  have ha : At S 0 (c :: q) := ⟨Int.le_refl 0, len_nonneg S, h⟩
  have hb := At.noblank ha (fun y z e => by rw [← (List.cons.inj e).1]; exact hc)
  unfold parseT
  rw [hb, hv]
  simp only [blank_end, Int.lt_irrefl, if_false]
theorem read_list {a b S : Str} {x y : Vl} (ha : Reads a x) (hb : Reads b y) (hma : mkN a < 128) (hmb : mkN b < 128) (hS : S = 91 :: (a ++ 44 :: (b ++ [93]))) : parseT S = (listV [x, y], 0, 0) := by
  refine parse_of hS rfl ?_
  have h0 : At S 0 (91 :: (a ++ 44 :: (b ++ [93]))) := ⟨Int.le_refl 0, len_nonneg S, hS⟩
  have h1 := At.one h0
  have h2 : At S (0 + 1 + len a) (44 :: (b ++ [93])) := At.add h1
  have h3 := At.one h2
  have h4 : At S (0 + 1 + len a + 1 + len b) [93] := At.add h3
  have hl : S.length = a.length + b.length + 3 := by rw [hS]; simp; omega
  have hL : len S = len a + len b + 3 := by unfold len; omega
  have hla := len_nonneg a; have hlb := len_nonneg b
  have hno := no_words h0 (by decide)
  obtain ⟨j1, e1, e2, e3, _⟩ := part_of ⟨h1, .inl rfl⟩ ha hma (F := 2 * S.length) (by omega)
  obtain ⟨j2, e4, e5, _, _⟩ := part_of (c := 93) (q := []) ⟨h3, .inr (.inl rfl)⟩ hb hmb (F := 2 * S.length - 1) (by omega)
  have hby : byteAt S 0 = 91 := At.byte h0
  obtain ⟨F, hF⟩ : ∃ F, 2 * S.length = F + 1 := ⟨2 * S.length - 1, by omega⟩
  rw [hF] at e1
  rw [show 2 * S.length - 1 = F by omega] at e4
  rw [show 2 * S.length + 2 = F + 1 + 1 + 1 by omega, valT_go _ _ hno, if_neg (by omega), if_neg (by omega), if_neg (by rw [hby]; decide), if_neg (by omega), if_neg (by omega), if_pos hby,
    partsT_go e3, itemsT, e1]
  show mapR listV (moreT S [93] (.ok ([] ++ [x]) j1) (itemsT (F + 1) S 0)) = _
  rw [more_on (by decide) h2 e2, itemsT, e4]
  show mapR listV (moreT S [93] (.ok ([] ++ [x] ++ [y]) j2) (itemsT F S 0)) = _
  rw [more_at h4 e5]
  show PR.ok (listV [x, y]) _ = _
  congr 1; omega
theorem name1 {S : Str} {k : Int} {n : UInt8} {q : Str} (h : At S k (34 :: n :: 34 :: 58 :: q)) (hn : n = 97 ∨ n = 98) {val : Int → PR Vl} {m : List (Str × Vl)} : pairT S k val m = mapR (putV m [n]) (val (blankTo S (k + 4))) := by
  have hun : unqP (from' S k) = ([n], 3, 0) := by
    rw [h.2.2]
    rcases hn with rfl | rfl
    · have := unq_quote (s := [97]) (by decide +kernel) (58 :: q)
      rw [show quoteP [97] = [34, 97, 34] by decide +kernel] at this; exact this
    · have := unq_quote (s := [98]) (by decide +kernel) (58 :: q)
      rw [show quoteP [98] = [34, 98, 34] by decide +kernel] at this; exact this
  have ht : textT S k = .ok [n] (k + 3) := by rw [textT_ok (by rw [hun]), hun]
  have h3 : At S (k + 3) (58 :: q) := At.add (u := [34, n, 34]) h
  have hb := At.noblank h3 (fun y z e => by rw [← (List.cons.inj e).1]; rfl)
  rw [pairT_val ht (by rw [hb, At.has1 h3]; rfl), hb, show k + 3 + 1 = k + 4 by omega]
theorem read_obj {a b S : Str} {x y : Vl} {n m : UInt8} (hn : n = 97 ∨ n = 98) (hm : m = 97 ∨ m = 98) (ha : Reads a x) (hb : Reads b y) (hma : mkN a < 128) (hmb : mkN b < 128)
    (hS : S = 123 :: 34 :: n :: 34 :: 58 :: (a ++ 44 :: 34 :: m :: 34 :: 58 :: (b ++ [125]))) : parseT S = (objV (putV (putV [] [n] x) [m] y), 0, 0) := by
  refine parse_of hS rfl ?_
  have h0 : At S 0 (123 :: 34 :: n :: 34 :: 58 :: (a ++ 44 :: 34 :: m :: 34 :: 58 :: (b ++ [125]))) := ⟨Int.le_refl 0, len_nonneg S, hS⟩
  have h1 := At.one h0
  have h1' : At S (0 + 1 + 4) (a ++ 44 :: 34 :: m :: 34 :: 58 :: (b ++ [125])) := At.add (u := [34, n, 34, 58]) h1
  have h2 := At.add h1'
  have h3 := At.one h2
  have h3' : At S (0 + 1 + 4 + len a + 1 + 4) (b ++ [125]) := At.add (u := [34, m, 34, 58]) h3
  have h4 : At S (0 + 1 + 4 + len a + 1 + 4 + len b) [125] := At.add h3'
  have hl : S.length = a.length + b.length + 11 := by rw [hS]; simp; omega
  have hL : len S = len a + len b + 11 := by unfold len; omega
  have hla := len_nonneg a; have hlb := len_nonneg b
  have hno := no_words h0 (by decide)
  obtain ⟨j1, e1, e2, _, _⟩ := part_of ⟨h1', .inl rfl⟩ ha hma (F := 2 * S.length) (by omega)
  obtain ⟨j2, e4, e5, _, _⟩ := part_of (c := 125) (q := []) ⟨h3', .inr (.inr rfl)⟩ hb hmb (F := 2 * S.length - 1) (by omega)
  have hby : byteAt S 0 = 123 := At.byte h0
  obtain ⟨F, hF⟩ : ∃ F, 2 * S.length = F + 1 := ⟨2 * S.length - 1, by omega⟩
  rw [hF] at e1
  rw [show 2 * S.length - 1 = F by omega] at e4
  have hq : blankTo S (0 + 1) = 0 + 1 := At.noblank h1 (fun y z e => by rw [← (List.cons.inj e).1]; rfl)
  have hq2 : blankTo S (0 + 1 + 4 + len a + 1) = 0 + 1 + 4 + len a + 1 := At.noblank h3 (fun y z e => by rw [← (List.cons.inj e).1]; rfl)
  rw [show 2 * S.length + 2 = F + 1 + 1 + 1 by omega, valT_go _ _ hno, if_neg (by omega), if_neg (by omega), if_neg (by rw [hby]; decide), if_neg (by omega), if_neg (by omega), if_neg (by omega),
    partsT_go (by rw [hq, At.has1 h1]; rfl), hq, pairsT, name1 h1 hn, e1]
  show mapR objV (moreT S [125] (.ok (putV [] [n] x) j1) (pairsT (F + 1) S 0)) = _
  rw [more_on (by decide) h2 e2, hq2, pairsT, name1 h3 hm, e4]
  show mapR objV (moreT S [125] (.ok (putV (putV [] [n] x) [m] y) j2) (pairsT F S 0)) = _
  rw [more_at h4 e5]
  show PR.ok (objV (putV (putV [] [n] x) [m] y)) _ = _
  congr 1; omega
theorem obj_both (x y : Vl) : objV (putV (putV [] [98] y) [97] x) = objV ([[97], [98]].zip [x, y]) := by
  refine objV_perm (ps := [([98], y), ([97], x)]) (m := [([97], x), ([98], y)]) (List.Perm.swap _ _ _) ?_
  show ([[97], [98]] : List Str).Nodup
  decide
theorem obj_one (x y : Vl) : objV (putV (putV [] [97] x) [97] y) = objV ([[97]].zip [y]) := rfl
end Go.Eng
set_option maxRecDepth 100000
namespace Go.Proofs.YtjfaikgooldcbaaGreatDoor
open Go.Eng

theorem mkN_skip {s : Str} {i : Int} (h0 : 0 ≤ i) (h1 : i < len s) (h : byteAt s i ≠ 91 ∧ byteAt s i ≠ 123) : mkN (from' s (i + 1)) = mkN (from' s i) := by
  obtain ⟨b, hb, he⟩ := from_cons s i h0 h1
  have hm : ¬ mkB b = true := by
    intro hm
    have : b = 91 ∨ b = 123 := by unfold mkB at hm; simpa using hm
    rcases this with rfl | rfl
    · exact h.1 he
    · exact h.2 he
  rw [hb]; unfold mkN; rw [List.countP_cons_of_neg hm]
theorem mkN_le (s : Str) : mkN s ≤ len s := by unfold mkN len; have := List.countP_le_length (p := mkB) (l := s); omega
theorem marks_c (s : Str) (w : World) (hb : len s ≤ 1099511627776) : Calls Tryz.prog 22 [str s].toArray w fun e w' => e = .returned (i64 (mkN s)) ∧ Ext w w' := by
 refine xenter ttok Tryz.func22 rfl Tryz.ntmps22 [] [] [.v (str s)] rfl (st0 w) fnil (fun B hB => ?_) rfl
 have hm := mkN_le s; have hm0 := mkN_nonneg s; have hl := len_nonneg s
 refine xloop (fun (g : Int × Int) => ⟨[], [], [Z 0 (.v (str s)), Z 3 (I g.1), Z 4 (I g.2)]⟩) (fun g => g.1 + mkN (from' s g.2) = mkN s ∧ 0 ≤ g.1 ∧ 0 ≤ g.2 ∧ g.2 ≤ len s) (fun g => (len s - g.2).toNat) (0, 0) rfl (eok rfl) (by omega) rfl ⟨by show 0 + mkN s = mkN s; omega, by decide, by decide, hl⟩ ?_
 rintro ⟨n, i⟩ ⟨hn, hn0, hi0, hi1⟩
 dsimp only at hn hn0 hi0 hi1
 have hnn := mkN_nonneg (from' s i)
 refine xbr rfl (eok rfl) (by omega) (fun hb1 => ?_) (fun hb1 => ?_) <;> simp only [zb] at hb1
 ·refine xbr rfl (eok rfl) (by simp only [zb] <;> omega) (fun hb2 => ?_) (fun hb2 => ?_) <;> simp only [zb] at hb2
  ·have hst := mkN_step hi0 hb1 (by omega)
   exact xround (n + 1, i + 1) rfl (eok rfl) (by omega) rfl ⟨by show n + 1 + mkN (from' s (i + 1)) = _; omega, by show 0 ≤ n + 1; omega, by show 0 ≤ i + 1; omega, by show i + 1 ≤ _; omega⟩ (by show Int.toNat _ < Int.toNat _; omega)
  ·have hst := mkN_skip hi0 hb1 (by omega)
   exact xround (n, i + 1) rfl (eok rfl) (by omega) rfl ⟨by show n + mkN (from' s (i + 1)) = _; omega, by show 0 ≤ n; omega, by show 0 ≤ i + 1; omega, by show i + 1 ≤ _; omega⟩ (by show Int.toNat _ < Int.toNat _; omega)
 ·have e0 : mkN (from' s i) = 0 := by rw [from_nil s i (by omega)]; rfl
  exact xret hB rfl rfl (eok rfl) (by omega) rfl (eok rfl) fun w M hX => ⟨by rw [← hn, e0, Int.add_zero]; rfl, hX.st.low⟩
theorem sameT_c {M : Mem} {x y : Vl} (h : x = y) (va vb : Value) (w : World) (hM : Sat w M) (ha : Sl M 6 x.length va (x.flatMap Nd.cells)) (hb : Sl M 6 y.length vb (y.flatMap Nd.cells)) :
  Calls Tryz.prog 13 [va, vb].toArray w fun e w' => e = .returned (.bool true) ∧ Ext w w' := by
 subst h
 exact (same2_c M x x va vb w hM ha hb).mono fun e w' h => by rw [sameV_self] at h; exact h
theorem parseK_c {w0 wv : World} {M0 M : Mem} {Rs : List HO} (s : Str) {v : Vl} (h : parseT s = (v, 0, 0)) (hS : St w0 M0 wv M Rs) (hg : Gl w0) (hb : len s ≤ 1099511627776) :
  Calls Tryz.prog 11 [str s].toArray wv (ORet w0 M0 M Rs (fun h : SlH => .tuple #[h.v, i64 0, i64 0]) (fun _ => True) (fun h => [(0, kn h.v 6 v Nd.cells)]) fun _ => []) := by
 have := parseO_c s hS hg hb
 rw [h] at this; exact this
set_option maxHeartbeats 2000000 in
theorem textLists_c (a b : Str) (w : World) (hg : Gl w) (hla : len a ≤ 140737488355328) (hlb : len b ≤ 140737488355328) :
  Calls Tryz.prog 9 [str a, str b].toArray w fun e w' => e = .returned (.bool true) ∧ Ext w w' := by
 have ha0 := len_nonneg a; have hb0 := len_nonneg b
 refine xenter ttok Tryz.func9 rfl Tryz.ntmps9 [] [] [.v (str a), .v (str b)] rfl (st0 w) fnil (fun B hB => ?_) rfl
 refine xbr rfl (eok rfl) (by simp only [zb] <;> omega) (fun hb1 => ?_) (fun hb1 => ?_) <;> simp only [zb] at hb1
 ·refine xcall rfl (eok rfl) (by omega) Tryz.call10 rfl rfl (eok rfl) (fun _ w M hX => alive4_c w (hg.low hX.st.low)) rfl ?_
  exact xret hB rfl rfl (eok rfl) (by omega) rfl (eok rfl) fun w M hX => ⟨rfl, hX.st.low⟩
 refine xcallO [] (fun h : SlH => .tu [.sl 1 h.v, I (parseT a).2.1, I (parseT a).2.2]) [1] (fun _ => []) rfl (eok rfl) (by omega) rfl Tryz.call11 rfl rfl (eok rfl) rfl (fun w M hS hF => parseO_c a hS hg (by omega)) (fun _ => rfl) (fun _ => rfl) fun h1 _ => ?_
 refine xcallO [] (fun h : SlH => .tu [.sl 2 h.v, I (parseT b).2.1, I (parseT b).2.2]) [2] (fun _ => []) rfl (eok rfl) (by omega) rfl Tryz.call11 rfl rfl (eok rfl) rfl (fun w M hS hF => parseO_c b hS hg (by omega)) (fun _ => rfl) (fun _ => rfl) fun h2 _ => ?_
 have hpa := parse_good a; have hpb := parse_good b
 refine xbr rfl (eok rfl) (by simp only [zb] <;> omega) (fun hb2 => ?_) (fun hb2 => ?_) <;> simp only [zb] at hb2
 ·refine xcall rfl (eok rfl) (by omega) Tryz.call10 rfl rfl (eok rfl) (fun _ w M hX => alive4_c w (hg.low hX.st.low)) rfl ?_
  exact xret hB rfl rfl (eok rfl) (by omega) rfl (eok rfl) fun w M hX => ⟨rfl, hX.st.low⟩
 have hea : (parseT a).2.2 = 0 := by omega
 have heb : (parseT b).2.2 = 0 := by omega
 have hra := reads_of hea; have hrb := reads_of heb
 have hna := ne_len.1 (reads_ne hra); have hnb := ne_len.1 (reads_ne hrb)
 have hga := (hpa.1 hea).2; have hgb := (hpb.1 heb).2
 refine xbr rfl (eok rfl) (by simp only [zb] <;> omega) (fun hb3 => ?_) (fun hb3 => ?_) <;> simp only [zb] at hb3
 ·exfalso; omega
 refine xcall rfl (eok rfl) (by omega) Tryz.call22 rfl rfl (eok rfl) (fun _ w M hX => marks_c a w (by omega)) rfl ?_
 refine xsplit (I 0) rfl (eok rfl) (by omega) rfl (fun hb4' => ?_) (fun hb4 => ?_)
 rotate_left
 ·simp only [zb] at hb4
  refine xbr rfl (eok rfl) (by simp only [zb] <;> omega) (fun hb5 => ?_) (fun hb5 => ?_) <;> simp only [zb] at hb5
  ·refine xcall rfl (eok rfl) (by omega) Tryz.call10 rfl rfl (eok rfl) (fun _ w M hX => alive4_c w (hg.low hX.st.low)) rfl ?_
   exact xret hB rfl rfl (eok rfl) (by omega) rfl (eok rfl) fun w M hX => ⟨rfl, hX.st.low⟩
  ·exfalso; omega
 refine xcall rfl (eok rfl) (by omega) Tryz.call22 rfl rfl (eok1 hb4' rfl) (fun _ w M hX => marks_c b w (by omega)) rfl ?_
 have hb4 := hb4'; simp only [zb] at hb4
 refine xbr rfl (eok rfl) (by simp only [zb] <;> omega) (fun hb5 => ?_) (fun hb5 => ?_) <;> simp only [zb] at hb5
 ·refine xcall rfl (eok rfl) (by omega) Tryz.call10 rfl rfl (eok rfl) (fun _ w M hX => alive4_c w (hg.low hX.st.low)) rfl ?_
  exact xret hB rfl rfl (eok rfl) (by omega) rfl (eok rfl) fun w M hX => ⟨rfl, hX.st.low⟩
 have hma : mkN a < 128 := by omega
 have hmb : mkN b < 128 := by omega
 have hp1 : parseT ([91] ++ a ++ [44] ++ b ++ [93]) = (listV [(parseT a).1, (parseT b).1], 0, 0) := read_list hra hrb hma hmb (by simp)
 have hp2 : parseT ([123, 34, 98, 34, 58] ++ b ++ [44, 34, 97, 34, 58] ++ a ++ [125]) = (objV ([[97], [98]].zip [(parseT a).1, (parseT b).1]), 0, 0) := by rw [← obj_both]; exact read_obj (.inr rfl) (.inl rfl) hrb hra hmb hma (by simp)
 have hp3 : parseT ([123, 34, 97, 34, 58] ++ a ++ [44, 34, 97, 34, 58] ++ b ++ [125]) = (objV ([[97]].zip [(parseT b).1]), 0, 0) := by rw [← obj_one (parseT a).1]; exact read_obj (.inl rfl) (.inl rfl) hra hrb hma hmb (by simp)
 have hs1 : len ([91] ++ a ++ [44] ++ b ++ [93]) ≤ 1099511627776 := by simp only [len_app, len_cons, len_nil]; omega
 have hs2 : len ([123, 34, 98, 34, 58] ++ b ++ [44, 34, 97, 34, 58] ++ a ++ [125]) ≤ 1099511627776 := by simp only [len_app, len_cons, len_nil]; omega
 have hs3 : len ([123, 34, 97, 34, 58] ++ a ++ [44, 34, 97, 34, 58] ++ b ++ [125]) ≤ 1099511627776 := by simp only [len_app, len_cons, len_nil]; omega
 refine xcallO [] (fun h : SlH => .tu [.sl 3 h.v, I 0, I 0]) [3] (fun _ => []) rfl (eok rfl) (by simp only [zb, len_app, len_cons, len_nil] <;> omega) rfl Tryz.call11 rfl rfl (eok rfl) rfl (fun w M hS hF => parseK_c ([91] ++ a ++ [44] ++ b ++ [93]) hp1 hS hg hs1) (fun _ => rfl) (fun _ => rfl) fun h3 _ => ?_
 refine xcallO [] (fun h : SlH => .tu [.sl 4 h.v, I 0, I 0]) [4] (fun _ => []) rfl (eok rfl) (by simp only [zb, len_app, len_cons, len_nil] <;> omega) rfl Tryz.call11 rfl rfl (eok rfl) rfl (fun w M hS hF => parseK_c ([123, 34, 98, 34, 58] ++ b ++ [44, 34, 97, 34, 58] ++ a ++ [125]) hp2 hS hg hs2) (fun _ => rfl) (fun _ => rfl) fun h4 _ => ?_
 refine xcallO [] (fun h : SlH => .tu [.sl 5 h.v, I 0, I 0]) [5] (fun _ => []) rfl (eok rfl) (by simp only [zb, len_app, len_cons, len_nil] <;> omega) rfl Tryz.call11 rfl rfl (eok rfl) rfl (fun w M hS hF => parseK_c ([123, 34, 97, 34, 58] ++ a ++ [44, 34, 97, 34, 58] ++ b ++ [125]) hp3 hS hg hs3) (fun _ => rfl) (fun _ => rfl) fun h5 _ => ?_
 have hfl : len [(parseT a).1, (parseT b).1].flatten ≤ 1048576 := by show len ((parseT a).1 ++ ((parseT b).1 ++ [])) ≤ _; simp only [len_app, len_nil]; omega
 have hfl1 : len [(parseT b).1].flatten ≤ 1048576 := by show len ((parseT b).1 ++ []) ≤ _; simp only [len_app, len_nil]; omega
 have hne : ∀ x ∈ [(parseT a).1, (parseT b).1], x ≠ [] := by intro x hx; simp only [List.mem_cons, List.not_mem_nil, or_false] at hx; rcases hx with rfl | rfl; exact reads_ne hra; exact reads_ne hrb
 have hut : ∀ n ∈ ([[97], [98]] : List Str), utf n = true ∧ len n ≤ 4398046511104 := by decide +kernel
 have hut1 : ∀ n ∈ ([[97]] : List Str), utf n = true ∧ len n ≤ 4398046511104 := by decide +kernel
 refine xlit 6 [[97], [98]] strC 1 9 strC_len rfl (eok rfl) (by omega) rfl (eok rfl) (fun w => by kernel_rfl) rfl fun v6 => ?_
 refine xlit 7 [h1, h2] valI 1 24 valI_len rfl (eok rfl) (by omega) rfl (eok rfl) (fun w => by kernel_rfl) rfl fun v7 => ?_
 refine xcallM (fun v : Value => .tu [.sl 8 v, I 0]) [8] rfl (eok rfl) (by omega) rfl Tryz.call23 rfl rfl (eok rfl) (fun w M hX => object_c v6 v7 [[97], [98]] [h1, h2] [(parseT a).1, (parseT b).1] w M hX.st.sat (hX.sl 6 rfl) ⟨hX.sl 7 rfl, valI_len, hX.sl 1 rfl, hX.sl 2 rfl, trivial⟩ rfl hne hfl (show (2 : Int) ≤ _ by decide) (by decide) hut) (fun _ => rfl) fun v8 _ => ?_
 refine xlit 9 [[97]] strC 1 9 strC_len rfl (eok rfl) (by omega) rfl (eok rfl) (fun w => by kernel_rfl) rfl fun v9 => ?_
 refine xlit 10 [h2] valI 1 24 valI_len rfl (eok rfl) (by omega) rfl (eok rfl) (fun w => by kernel_rfl) rfl fun v10 => ?_
 refine xcallM (fun v : Value => .tu [.sl 11 v, I 0]) [11] rfl (eok rfl) (by omega) rfl Tryz.call23 rfl rfl (eok rfl) (fun w M hX => object_c v9 v10 [[97]] [h2] [(parseT b).1] w M hX.st.sat (hX.sl 9 rfl) ⟨hX.sl 10 rfl, valI_len, hX.sl 2 rfl, trivial⟩ rfl (fun x hx => hne x (List.mem_cons_of_mem _ hx)) hfl1 (show (1 : Int) ≤ _ by decide) (by decide) hut1) (fun _ => rfl) fun v11 _ => ?_
 refine xcall rfl (eok rfl) (by omega) Tryz.call10 rfl rfl (eok rfl) (fun _ w M hX => alive4_c w (hg.low hX.st.low)) rfl ?_
 refine xsplit (I 0) rfl (eok rfl) (by omega) rfl (fun _ => ?_) (fun h => nomatch h)
 refine xlit 12 [h1, h2] valI 1 24 valI_len rfl (eok rfl) (by omega) rfl (eok rfl) (fun w => by kernel_rfl) rfl fun v12 => ?_
 refine xsplit (I 0) rfl (eok rfl) (by omega) rfl (fun _ => ?_) (fun h => nomatch h)
 refine xcallM (fun v : Value => .sl 13 v) [13] rfl (eok rfl) (by omega) rfl Tryz.call24 rfl rfl (eok rfl) (fun w M hX => list2_c v12 [h1, h2] [(parseT a).1, (parseT b).1] w M hX.st.sat ⟨hX.sl 12 rfl, valI_len, hX.sl 1 rfl, hX.sl 2 rfl, trivial⟩ hfl (show (2 : Int) ≤ _ by decide)) (fun _ => rfl) fun v13 _ => ?_
 refine xcall rfl (eok rfl) (by omega) Tryz.call13 rfl rfl (eok rfl) (fun _ w M hX => sameT_c rfl h3.v v13 w hX.st.sat (hX.sl 3 rfl) (hX.sl 13 rfl)) rfl ?_
 refine xcall rfl (eok rfl) (by omega) Tryz.call13 rfl rfl (eok rfl) (fun _ w M hX => sameT_c rfl h4.v v8 w hX.st.sat (hX.sl 4 rfl) (hX.sl 8 rfl)) rfl ?_
 refine xcall rfl (eok rfl) (by omega) Tryz.call13 rfl rfl (eok rfl) (fun _ w M hX => sameT_c rfl h5.v v11 w hX.st.sat (hX.sl 5 rfl) (hX.sl 11 rfl)) rfl ?_
 exact xret hB rfl rfl (eok rfl) (by omega) rfl (eok rfl) fun w M hX => ⟨rfl, hX.st.low⟩
end Go.Proofs.YtjfaikgooldcbaaGreatDoor
