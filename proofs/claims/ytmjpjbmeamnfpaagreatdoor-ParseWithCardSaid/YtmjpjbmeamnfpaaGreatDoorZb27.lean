/-
  What a text's tokens keep to, as a parser wants it. No program in it.
  parse.Parse.
  PLACES IN A TEXT: what stands from one on. Plain: no program in it.
  BRACKETS IN BRACKETS: the tokens of such a text, and what they are parsed as. Plain: no program in it.
  BRACKETS IN BRACKETS are parsed, as many as may be. Plain: no program in it.
  loupelaw09: alive, ParseNest.
  A filter's tokens, read within other tokens: what is parsed there. No program in it.
-/
import Derived.Test.YtmjpjbmeamnfpaaGreatDoorZb26
import Derived.Test.YtmjpjbmeamnfpaaGreatDoorZb14
import Derived.Test.YtmjpjbmeamnfpaaGreatDoorZb25
import Derived.Test.YtmjpjbmeamnfpaaGreatDoorZb11
import Derived.Test.YtmjpjbmeamnfpaaGreatDoorZb4
import Derived.Laws.BitsLemmas
import Derived.Test.YtmjpjbmeamnfpaaGreatDoorZb3
import Derived.Test.YtmjpjbmeamnfpaaGreatDoorProg
set_option linter.unusedVariables false
set_option linter.unusedSimpArgs false
namespace Go.Eng

theorem right_num {t : Tk} (h : Eng.right8 t = true) (hk : t.kind = 5) : right1 t.c = true := by
  unfold Eng.right8 at h
  simp only [hk] at h
  simp at h
  exact h.2
theorem lexOk {s : Str} (hs : len s ≤ 100000) (h : (lexP s).2.2 = 0) : LexOk (lexP s).1 := by
  obtain ⟨l, h1, h2⟩ := lexP_ok h
  have hb := h1.bd hs
  have hr := h1.right8
  have hbl := blankTo_bd s 0 (Int.le_refl 0) (len_nonneg s)
  rw [h2]
  dsimp only
  have hll : len (l ++ [endTk s]) = len l + 1 := by rw [len_app]; rfl
  refine ⟨fun i h0 hi hk => ?_, fun t ht hk => ?_, fun t ht hk => ?_, fun t ht => ?_, ?_⟩
  · rw [hll] at hi ⊢
    rcases Int.lt_or_eq_of_le (show i ≤ len l by omega) with hl | hl
    · omega
    · exact absurd (by rw [at'_last l (endTk s) hl]; rfl) hk
  · rcases List.mem_append.1 ht with ht | ht
    · obtain ⟨_, hf, _⟩ := right_open (right_num (hr t ht) hk)
      exact hf
    · rw [List.mem_singleton.1 ht] at hk; exact absurd hk (by show ¬ (6 : Int) = 5; decide)
  · rcases List.mem_append.1 ht with ht | ht
    · have := hb.1 t ht
      exact ⟨this.2.1, by have := this.2.2 hk; omega⟩
    · rw [List.mem_singleton.1 ht] at hk; exact absurd hk (by show ¬ (6 : Int) = 5; decide)
  · rcases List.mem_append.1 ht with ht | ht
    · exact (hb.1 t ht).1
    · rw [List.mem_singleton.1 ht]; show len ([] : Str) ≤ _; decide
  · have := hb.2 hbl.2
    rw [hll]; omega
end Go.Eng
set_option maxRecDepth 100000
namespace Go.Proofs.YtmjpjbmeamnfpaaGreatDoor
open Go.Eng

abbrev resH (bx by' bz : Nat) (x y z : Value) : List HO := [.box bx [x] 23, .box by' [y] 3, .box bz [z] 26]
theorem pdef_ret {w0 wv : World} {M0 M : Mem} {Rs : List HO} (bx by' bz : Nat) (x y z : Value) (hS : St w0 M0 wv M (resH bx by' bz x y z ++ Rs)) :
    CallsD Tryz.prog 23 [.pointer (some ⟨bx, 0, none⟩), .pointer (some ⟨by', 0, none⟩), .pointer (some ⟨bz, 0, none⟩)].toArray .returning wv (fun e u' w' => e = .returned (.tuple #[]) ∧ u' = (recMode .returning).2 ∧ ∃ M', St w0 M0 w' M' (resH bx by' bz x y z ++ Rs) ∧ M.le M') := by
 refine xenterS (Hr := Rs) ttok Tryz.func23 rfl Tryz.ntmps23 rfl rfl rfl rfl (fun a w => rfl) [] [(0, .box bx [.v x] 23), (1, .box by' [.v y] 3), (2, .box bz [.v z] 26)] (.v .nilIface) [.bx 0 bx 0, .bx 1 by' 0, .bx 2 bz 0] rfl rfl hS fnil (fun B hB => ?_) rfl
 refine xpv (.tu [.ag [I 0, I 0], .v (.bool false)]) rfl (eok rfl) (by omega) rfl (fun w M hX => PV.assertsNo (opd_d (v := .v .nilIface) (E := []) rfl (eok rfl)) Tryz.underlying56 Tryz.zeroValue56) ?_
 refine xalloc 3 rfl (eok rfl) (by omega) Tryz.zeroValue56 rfl fun b3 => ?_
 refine xbr rfl (eok rfl) (by omega) (fun hb1 => ?_) (fun hb1 => ?_)
 ·cases hb1
 ·exact xendS hB rfl (eok rfl) (by omega) fun w M' hX => ⟨M', hX.sel [0, 1, 2] rfl, hX.le⟩
theorem pdef_pan {w0 wv : World} {M0 M : Mem} {Rs : List HO} (ec p : Int) (bx by' bz : Nat) (x y z : Value) (hS : St w0 M0 wv M (resH bx by' bz x y z ++ Rs)) :
    CallsD Tryz.prog 23 [.pointer (some ⟨bx, 0, none⟩), .pointer (some ⟨by', 0, none⟩), .pointer (some ⟨bz, 0, none⟩)].toArray (.panicking [wrongE 56 ec p]) wv (fun e u' w' => e = .returned (.tuple #[]) ∧ u' = (recMode (.panicking [wrongE 56 ec p])).2 ∧ ∃ M', St w0 M0 w' M' (resH bx by' bz (.slice none 0 0) (i64 p) (i64 ec) ++ Rs) ∧ M.le M') := by
 refine xenterS (Hr := Rs) ttok Tryz.func23 rfl Tryz.ntmps23 rfl rfl rfl rfl (fun a w => rfl) [] [(0, .box bx [.v x] 23), (1, .box by' [.v y] 3), (2, .box bz [.v z] 26)] (.v (.iface 56 (.agg #[i64 ec, i64 p]))) [.bx 0 bx 0, .bx 1 by' 0, .bx 2 bz 0] rfl rfl hS fnil (fun B hB => ?_) rfl
 refine xpv (.tu [.ag [I ec, I p], .v (.bool true)]) rfl (eok rfl) (by omega) rfl (fun w M hX => PV.asserts (v := .agg #[i64 ec, i64 p]) (opd_d (v := .v (.iface 56 (.agg #[i64 ec, i64 p]))) (E := []) rfl (eok rfl)) Tryz.underlying56) ?_
 refine xalloc 3 rfl (eok rfl) (by omega) Tryz.zeroValue56 rfl fun b3 => ?_
 refine xbr rfl (eok rfl) (by omega) (fun hb1 => ?_) (fun hb1 => ?_)
 ·refine xdrawO [4, 5, 6] 4 (fun _ _ _ _ _ h => h) rfl (eok rfl) (by omega) mixedK (by decide +kernel) ?_
  refine dg1 4 rfl (eok rfl) (by omega) rfl rfl ?_
  refine xstep rfl (eok rfl) (by omega) ?_
  refine dg1 5 rfl (eok rfl) (by omega) rfl rfl ?_
  refine xstep rfl (eok rfl) (by omega) ?_
  refine dg1 6 rfl (eok rfl) (by omega) rfl rfl ?_
  refine xstep rfl (eok rfl) (by omega) ?_
  refine dg0 rfl (eok rfl) (by omega) rfl rfl ?_
  exact xendS hB rfl (eok rfl) (by omega) fun w M' hX => ⟨M', hX.sel [0, 1, 2] rfl, hX.le⟩
 ·cases hb1
/-- What Parse hands back. -/
abbrev ParR (w : World) (M : Mem) (r : Fl × Int × Int) : Ending → World → Prop := MRet w M (fun h : SlH => .tuple #[h.v, i64 r.2.1, i64 r.2.2]) (fun _ => True) fun h => [(0, knT h.v r.1)]
theorem parseP_c (s : Str) (w : World) (M : Mem) (hM : Sat w M) (hg : Gl w) (hb : len s ≤ 100000) :
    Calls Tryz.prog 11 [str s].toArray w (ParR w M (parseF quoteP s)) := by
 refine xenterD (Hr := []) ttok Tryz.func11 rfl Tryz.ntmps11 [] [] [.v (str s)] rfl (St.start hM) fnil (fun B hB => ?_) rfl
 refine xalloc 0 rfl (eok rfl) (by omega) Tryz.zeroValue23 rfl fun bx => ?_
 refine xalloc 1 rfl (eok rfl) (by omega) Tryz.zeroValue3 rfl fun by' => ?_
 refine xalloc 2 rfl (eok rfl) (by omega) Tryz.zeroValue26 rfl fun bz => ?_
 refine xcallM (fun u : Value => .tu [.sl 3 u, I (lexP s).2.1, I (lexP s).2.2]) [3] (Fg := fun u => [(0, kn u 9 (lexP s).1 Tk.cells)]) (pu := fun _ => True) rfl (eok rfl) (by omega) rfl Tryz.call22 rfl rfl (eok rfl) (fun w M hX => (lexP_c M s w hX.st.sat (hg.low hX.st.low) (by omega)).mono fun e w' ⟨v, M', he, ⟨u, hv, hsl⟩, hgr⟩ => ⟨u, M', by rw [he, hv]; rfl, trivial, hgr, fc 0 hsl (fun _ => rfl) fnil⟩) (fun _ => rfl) fun v _ => ?_
 refine xbr rfl (eok rfl) (by omega) (fun hb1 => ?_) (fun hb1 => ?_) <;> simp only [zb] at hb1
 ·have e : parseF quoteP s = ([], (lexP s).2.1, (lexP s).2.2) := by unfold parseF; rw [if_pos hb1]
  rw [e] at hB
  refine xdrawO [2, 3, 4] 4 (fun _ _ _ _ _ h => h) rfl (eok rfl) (by omega) mixedK (by decide +kernel) ?_
  refine dg1 2 rfl (eok rfl) (by omega) rfl rfl ?_
  refine xstep rfl (eok rfl) (by omega) ?_
  refine dg1 3 rfl (eok rfl) (by omega) rfl rfl ?_
  refine xstep rfl (eok rfl) (by omega) ?_
  refine dg1 4 rfl (eok rfl) (by omega) rfl rfl ?_
  refine xstep rfl (eok rfl) (by omega) ?_
  refine dg0 rfl (eok rfl) (by omega) rfl rfl ?_
  exact xret hB.ends rfl rfl (eok rfl) (by omega) rfl (eok rfl) fun w M' hX => ⟨⟨none, 0, 0⟩, M', rfl, trivial, (hX.sel [] rfl).done, fcons ⟨Sl.nil M' 11, Tm.cells_len, trivial⟩ fnil⟩
 have hlx : (lexP s).2.2 = 0 := by omega
 have ok := lexOk hb hlx
 have hl1 : 0 < len (lexP s).1 := by
  obtain ⟨l, _, h2⟩ := lexP_ok hlx
  rw [h2]; dsimp only; rw [len_app]; have := len_nonneg l; show 0 < _ + (1 : Int); omega
 have ep : parseF quoteP s = parseA quoteP (lexP s).1 := by unfold parseF; rw [if_neg (fun q => q hlx)]
 rw [ep] at hB
 unfold parseA at hB
 refine xpv (.v (.func (.func 23) #[] #[.pointer (some ⟨bx, 0, none⟩), .pointer (some ⟨by', 0, none⟩), .pointer (some ⟨bz, 0, none⟩)])) rfl (eok rfl) (by omega) rfl (fun w M hX => PV.makeFunc (xs := []) (ys := [.tmp 2, .tmp 3, .tmp 4]) (vs := []) (us := [.pointer (some ⟨bx, 0, none⟩), .pointer (some ⟨by', 0, none⟩), .pointer (some ⟨bz, 0, none⟩)]) trivial ⟨opd_d (v := .bx 0 bx 0) (E := []) rfl (eok rfl), opd_d (v := .bx 1 by' 0) (E := []) rfl (eok rfl), opd_d (v := .bx 2 bz 0) (E := []) rfl (eok rfl), trivial⟩) ?_
 refine xdefer (fun _ _ _ _ h => h) (fun _ _ _ _ _ h => h) rfl (eok rfl) (by omega) rfl (eok rfl) rfl ?_
 refine xbox 4 rfl (eok rfl) (by omega) rfl rfl (eok rfl) fun b4 => ?_
 cases hr : filA quoteP (8 * (lexP s).1.length + 8) (lexP s).1 0 0 with
 | er ec p =>
  rw [hr] at hB
  refine xcallE [4] rfl (eok rfl) (by omega) rfl Tryz.call24 rfl (eok rfl) rfl (fun w M hS hF => (allW _).fil hr ⟨hS, (hF.get (k := 3) rfl).sl, hg, ok, by omega, hl1⟩ (by omega) (by omega) (by unfold len; omega) trivial) fun a w M hs hS hle => post_panic _ (hB.pan hs ?_)
  have hS2 : St _ _ w M (resH bx by' bz (.slice none 0 0) (i64 (lexP s).2.1) (i64 (lexP s).2.2) ++ []) := hS.perm (List.reverse_perm [_, _, _])
  refine leaves_one Tryz.call23 (fun h => by cases h) rfl (pdef_pan ec p bx by' bz _ _ _ hS2) fun w' ⟨M', hS', hle'⟩ => ⟨_, xresults ttok (H := [(0, .box bx [.v (.slice none 0 0)] 23), (1, .box by' [I p] 3), (2, .box bz [I ec] 26)]) (Hr := []) hS' hs rfl rfl (eok rfl), ?_⟩
  exact ⟨⟨none, 0, 0⟩, M', rfl, trivial, (hS'.drop [] (List.nil_sublist _)).done, fcons ⟨Sl.nil M' 11, Tm.cells_len, trivial⟩ fnil⟩
 | ok x j =>
  have g := (all_good ok quoteP _).fil 0 0 x j (by omega) hl1 hr
  have hlt := g.lt
  have hle := g.le
  have hfew := ok.few
  rw [hr] at hB
  dsimp only at hB
  refine xcallO [4] (fun h : SlH => .sl 5 h.v) [] (fun h => [(4, xBox b4 v j 0), (5, pvF h.v x.flat)]) rfl (eok rfl) (by omega) rfl Tryz.call24 rfl rfl (eok rfl) rfl (fun w M hS hF => (allW _).fil hr ⟨hS, (hF.get (k := 3) rfl).sl, hg, ok, by omega, hl1⟩ (by omega) (by omega) (by unfold len; omega) trivial) (fun _ => rfl) (fun _ => rfl) fun h5 _ => ?_
  refine xtell 5 rfl ?_
  refine xcallK [4] (xTk (at' (lexP s).1 j)) rfl (eok rfl) (by omega) Tryz.call25 rfl rfl (eok rfl) rfl (fun _ w M hS hF => now_c hS (hF.get (k := 3) rfl).sl (by omega) hle) rfl ?_
  refine xbr rfl (eok rfl) (by omega) (fun hb2 => ?_) (fun hb2 => ?_) <;> simp only [zb] at hb2
  ·rw [if_neg hb2] at hB
   refine xcallE [4] rfl (eok rfl) (by omega) rfl Tryz.call26 rfl (eok rfl) rfl (fun w M hS hF => failP_c 1 hS (hF.get (k := 3) rfl).sl (by omega) hle) fun a w M hs hS hle => post_panic _ (hB.pan hs ?_)
   have hS2 : St _ _ w M (resH bx by' bz h5.v (i64 (lexP s).2.1) (i64 (lexP s).2.2) ++ []) := hS.perm (List.reverse_perm [_, _, _])
   refine leaves_one Tryz.call23 (fun h => by cases h) rfl (pdef_pan 1 (at' (lexP s).1 j).pos bx by' bz _ _ _ hS2) fun w' ⟨M', hS', hle'⟩ => ⟨_, xresults ttok (H := [(0, .box bx [.v (.slice none 0 0)] 23), (1, .box by' [I (at' (lexP s).1 j).pos] 3), (2, .box bz [I 1] 26)]) (Hr := []) hS' hs rfl rfl (eok rfl), ?_⟩
   exact ⟨⟨none, 0, 0⟩, M', rfl, trivial, (hS'.drop [] (List.nil_sublist _)).done, fcons ⟨Sl.nil M' 11, Tm.cells_len, trivial⟩ fnil⟩
  ·rw [if_pos (by omega)] at hB
   refine xretD hB rfl (eok rfl) (by omega) fun a w M hs hX => leaves_one Tryz.call23 (fun h => by cases h) rfl (pdef_ret bx by' bz _ _ _ (hX.sel [0, 1, 2] rfl)) fun w' ⟨M', hS', hle'⟩ => ⟨_, xresults ttok (H := [(0, .box bx [.sl 5 h5.v] 23), (1, .box by' [I 0] 3), (2, .box bz [I 0] 26)]) (Hr := []) hS' hs rfl rfl (eok rfl), ?_⟩
   exact ⟨h5, M', rfl, trivial, (hS'.drop [] (List.nil_sublist _)).done, fcons ((hX.f.get (k := 5) rfl).mono hle') fnil⟩
end Go.Proofs.YtmjpjbmeamnfpaaGreatDoor
namespace Go.Eng
open Go.RowKit

/-- What stands from a place on. -/
def At (s : Str) (i : Int) (u : Str) : Prop := 0 ≤ i ∧ i ≤ len s ∧ from' s i = u
theorem At.add {s : Str} {i : Int} {u r : Str} (h : At s i (u ++ r)) : At s (i + len u) r := by
  obtain ⟨h0, h1, h2⟩ := h
  have hl := from_len s i h0 h1
  rw [h2, len_app] at hl
  have h3 := len_nonneg u; have h4 := len_nonneg r
  refine ⟨by omega, by omega, ?_⟩
  rw [← from_from s i (len u) h0 h3, h2]
  unfold from' len; simp
theorem At.one {s : Str} {i : Int} {c : UInt8} {r : Str} (h : At s i (c :: r)) : At s (i + 1) r := At.add (u := [c]) h
theorem At.lt {s : Str} {i : Int} {c : UInt8} {r : Str} (h : At s i (c :: r)) : i < len s := by
  have hl := from_len s i h.1 h.2.1
  rw [h.2.2, len_cons] at hl
  have := len_nonneg r; omega
theorem At.byte {s : Str} {i : Int} {c : UInt8} {r : Str} (h : At s i (c :: r)) : byteAt s i = (c.toNat : Int) := by
  obtain ⟨b, h1, h2⟩ := from_cons s i h.1 h.lt
  rw [h.2.2] at h1
  rw [h2, (List.cons.inj h1).1]
def stopB (r : Str) : Prop := ∀ c r', r = c :: r' → isBlankB c = false
theorem At.blank {s : Str} {i : Int} {b r : Str} (h : At s i (b ++ r)) (hb : ∀ c ∈ b, isBlankB c = true) (hr : stopB r) : blankTo s i = i + len b := by
  unfold blankTo
  rw [h.2.2]
  have : (b ++ r).takeWhile isBlankB = b := by
    induction b with
    | nil =>
      cases r with
      | nil => rfl
      | cons c r => rw [List.nil_append, List.takeWhile_cons, hr c r rfl]; rfl
    | cons a b ih =>
      rw [List.cons_append, List.takeWhile_cons, hb a List.mem_cons_self]
      show a :: _ = _
      have key : ∀ (b r : Str), (∀ c ∈ b, isBlankB c = true) → stopB r → (b ++ r).takeWhile isBlankB = b := by
        intro b
        induction b with
        | nil => intro r _ hr; cases r with | nil => rfl | cons c r => rw [List.nil_append, List.takeWhile_cons, hr c r rfl]; rfl
        | cons a b ih2 => intro r hb2 hr; rw [List.cons_append, List.takeWhile_cons, hb2 a List.mem_cons_self, if_pos rfl, ih2 r (fun c hc => hb2 c (List.mem_cons_of_mem _ hc)) hr]
      rw [key b r (fun c hc => hb c (List.mem_cons_of_mem _ hc)) hr]
  rw [this]
theorem At.noblank {s : Str} {i : Int} {r : Str} (h : At s i r) (hr : stopB r) : blankTo s i = i := by
  have := At.blank (b := []) h (fun c hc => by cases hc) hr
  rw [len_nil] at this; omega
end Go.Eng
namespace Go.Eng
open Go.RowKit

/-! ### tokens -/
def mkT (m : Str) (i : Int) : Tk := ⟨1, m, noNd, i⟩
def wdT (m : Str) (i : Int) : Tk := ⟨2, m, noNd, i⟩
/-- Not a letter, nor a mark of a text. -/
def quietB (r : Str) : Prop := ∀ c r', r = c :: r' → isBlankB c = false ∧ isWordR (c.toNat : Int) false = false ∧ c ≠ 34
theorem quietB.stop {r : Str} (h : quietB r) : stopB r := fun c r' e => (h c r' e).1
theorem tokP_mark {c : UInt8} (hc : c ∈ ([40, 41, 91, 93, 123, 125, 58, 44, 124] : Str)) (u : Str) : tokP (c :: u) = (⟨1, [c], noNd, 0⟩, 1, 0) := by
  have key : ∀ c ∈ ([40, 41, 91, 93, 123, 125, 58, 44, 124] : Str), (c.toNat : Int) ≠ 46 ∧ markP (c :: u) = [c] := by
    intro c hc
    simp only [List.mem_cons, List.not_mem_nil, or_false] at hc
    rcases hc with rfl | rfl | rfl | rfl | rfl | rfl | rfl | rfl | rfl <;> exact ⟨by decide, rfl⟩
  obtain ⟨h1, h2⟩ := key c hc
  unfold tokP
  rw [byteAt_cons0, if_neg (fun h => h1 h.1), if_neg (fun h => h1 h.1), h2, if_pos (by simp)]
  rfl
theorem word_none {u : Str} (h : ∀ c r, u = c :: r → isLetter (c.toNat : Int) = false) : wordP u = [] := by
  cases u with
  | nil => exact word_nil (by rw [byteAt_nil]; decide)
  | cons c r => exact word_nil (by rw [byteAt_cons0]; exact h c r rfl)
theorem tokP_dot {u : Str} (hu : quietB u) : tokP (46 :: u) = (⟨1, [46], noNd, 0⟩, 1, 0) := by
  have hw : wordP u = [] := word_none fun c r e => by
    have := (hu c r e).2.1
    unfold isWordR at this
    simp only [Bool.or_eq_false_iff] at this; exact this.1
  have hq : Lib.hasPrefix u [34] = false := by
    cases u with
    | nil => rfl
    | cons c r =>
      have := (hu c r rfl).2.2
      unfold Lib.hasPrefix
      simp [List.isPrefixOf, Ne.symm this]
  have hm : markP (46 :: u) = [46] := rfl
  unfold tokP
  rw [byteAt_cons0, from1, if_neg (fun h => h.2 hw), if_neg (fun h => by rw [hq] at h; exact absurd h.2 (by decide)), hm, if_pos (by simp)]
  rfl
theorem word_of {w u : Str} (hw : w ≠ []) (h0 : ∀ j : Int, 0 ≤ j → j < len w → isWordR (byteAt w j) (j == 0) = true) (hu : ∀ c r, u = c :: r → isWordR (c.toNat : Int) false = false) : wordP (w ++ u) = w := by
  have hl := len_pos hw
  have hlu := len_nonneg u
  have e : wordTo (w ++ u) 0 = len w := by
    refine wordTo_is (n := len w) (by rw [len_app]; omega) (fun j h1 h2 => by rw [byteAt_l h1 h2]; exact h0 j h1 h2) (fun h => ?_) 0 (Int.le_refl _) (by omega)
    rw [byteAt_r' (Int.le_refl _), Int.sub_self]
    cases u with
    | nil => rw [len_app, len_nil] at h; omega
    | cons c r => rw [byteAt_cons0]; rw [show (len w == 0) = false from by simpa using (by omega : len w ≠ 0)]; exact hu c r rfl
  unfold wordP
  rw [e, sub_app]
theorem tokP_word {c : UInt8} {w u : Str} (h0 : ∀ j : Int, 0 ≤ j → j < len (c :: w) → isWordR (byteAt (c :: w) j) (j == 0) = true) (hu : ∀ c r, u = c :: r → isWordR (c.toNat : Int) false = false) : tokP (c :: w ++ u) = (⟨2, c :: w, noNd, 0⟩, len (c :: w), 0) := by
  have hw := word_of (u := u) (List.cons_ne_nil c w) h0 hu
  have hl : isLetter (c.toNat : Int) = true := by
    have := h0 0 (Int.le_refl _) (by rw [len_cons]; have := len_nonneg w; omega)
    rw [byteAt_cons0] at this
    unfold isWordR at this; simpa using this
  have hb := isLetter_mark hl
  have hm : markP (c :: (w ++ u)) = [] := mark_nil hb
  have h46 : ¬ (c.toNat : Int) = 46 := by
    intro e
    have : c = 46 := UInt8.toNat_inj.1 (by rw [show (46 : UInt8).toNat = 46 from rfl]; omega)
    subst this; exact absurd hb (by decide)
  unfold tokP
  rw [List.cons_append, byteAt_cons0, if_neg (fun h => h46 h.1), if_neg (fun h => h46 h.1), hm, if_neg (by simp)]
  rw [← List.cons_append, hw, if_pos (by simp)]
theorem Lx.at {s : Str} {i : Int} {u r : Str} {t : Tk} {l : List Tk} (h : At s i (u ++ r)) (hu : u ≠ []) (ht : tokP (u ++ r) = (t, len u, 0)) (hl : Lx s (blankTo s (i + len u)) l) : Lx s i ({ t with pos := i } :: l) := by
  have h1 := (At.add h).2.1
  have h2 := len_pos hu
  have h3 := h.1
  refine .step (n := len u) h3 (by omega) ?_ hl
  rw [h.2.2]; exact ht
theorem Lx.mark {s : Str} {i : Int} {c : UInt8} {b r : Str} {l : List Tk} (h : At s i (c :: (b ++ r))) (hc : c ∈ ([40, 41, 91, 93, 123, 125, 58, 44, 124] : Str)) (hb : ∀ c ∈ b, isBlankB c = true) (hr : stopB r) (hl : Lx s (i + 1 + len b) l) : Lx s i (mkT [c] i :: l) := by
  have := Lx.at (u := [c]) (t := ⟨1, [c], noNd, 0⟩) h (by simp) (tokP_mark hc _) (by rw [show len [c] = 1 from rfl, At.blank (At.one h) hb hr]; exact hl)
  exact this
theorem Lx.word {s : Str} {i : Int} {c : UInt8} {w b r : Str} {l : List Tk} (h : At s i (c :: w ++ (b ++ r))) (h0 : ∀ j : Int, 0 ≤ j → j < len (c :: w) → isWordR (byteAt (c :: w) j) (j == 0) = true) (hu : ∀ c r', b ++ r = c :: r' → isWordR (c.toNat : Int) false = false) (hb : ∀ c ∈ b, isBlankB c = true) (hr : stopB r) (hl : Lx s (i + len (c :: w) + len b) l) : Lx s i (wdT (c :: w) i :: l) := by
  have := Lx.at (t := ⟨2, c :: w, noNd, 0⟩) h (by simp) (tokP_word h0 hu) (by rw [At.blank (At.add h) hb hr]; exact hl)
  exact this
theorem Lx.dot {s : Str} {i : Int} {r : Str} {l : List Tk} (h : At s i (46 :: r)) (hr : quietB r) (hl : Lx s (i + 1) l) : Lx s i (mkT [46] i :: l) := by
  have := Lx.at (u := [46]) (t := ⟨1, [46], noNd, 0⟩) h (by simp) (tokP_dot hr) (by rw [show len [(46 : UInt8)] = 1 from rfl, At.noblank (At.one h) hr.stop]; exact hl)
  exact this
end Go.Eng
namespace Go.Eng
open Go.RowKit

/-- What stands from a place on, in a row of tokens. -/
def TA (l : List Tk) (j : Int) (u : List Tk) : Prop := 0 ≤ j ∧ from' l j = u
theorem TA.add {l : List Tk} {j : Int} {u r : List Tk} (h : TA l j (u ++ r)) : TA l (j + len u) r := by
  obtain ⟨h0, h2⟩ := h
  have h3 := len_nonneg u
  refine ⟨by omega, ?_⟩
  rw [← from_from l j (len u) h0 h3, h2]
  unfold from' len; simp
theorem TA.one {l : List Tk} {j : Int} {t : Tk} {r : List Tk} (h : TA l j (t :: r)) : TA l (j + 1) r := TA.add (u := [t]) h
theorem TA.at {l : List Tk} {j : Int} {t : Tk} {r : List Tk} (h : TA l j (t :: r)) : at' l j = t := by
  obtain ⟨h0, h1⟩ := h
  unfold at'
  have h2 : (l.drop j.toNat)[0]? = some t := by
    have : from' l j = l.drop j.toNat := rfl
    rw [← this, h1]; rfl
  rw [List.getElem?_drop, Nat.add_zero] at h2
  rw [List.getD_eq_getElem?_getD, h2]; rfl
theorem TA.isM {l : List Tk} {j : Int} {t : Tk} {r : List Tk} (h : TA l j (t :: r)) (m : Str) : isM l j m = (t.kind == 1 && t.s == m) := by unfold Eng.isM; rw [h.at]
theorem TA.isWd {l : List Tk} {j : Int} {t : Tk} {r : List Tk} (h : TA l j (t :: r)) (m : Str) : isWd l j m = (t.kind == 2 && t.s == m) := by unfold Eng.isWd; rw [h.at]
theorem TA.pos {l : List Tk} {j : Int} {t : Tk} {r : List Tk} (h : TA l j (t :: r)) : (at' l j).pos = t.pos := by rw [h.at]
theorem TA.lt {l : List Tk} {j : Int} {t : Tk} {r : List Tk} (h : TA l j (t :: r)) : j < len l := by
  obtain ⟨h0, h1⟩ := h
  rcases Int.lt_or_le j (len l) with h | h
  · exact h
  · exfalso
    have : from' l j = l.drop j.toNat := rfl
    rw [this, List.drop_eq_nil_of_le (by unfold len at h; omega)] at h1; cases h1
/-- A token behind which nothing goes on. -/
def stopT (t : Tk) : Prop := t.kind = 6 ∨ t.kind = 1 ∧ (t.s = [41] ∨ t.s = [93] ∨ t.s = [125])
theorem stopT.no {t : Tk} (h : stopT t) : t.kind ≠ 3 ∧ (t.kind == 1 && t.s == [91]) = false ∧ (t.kind == 1 && t.s == [124]) = false := by
  rcases h with h | ⟨h, h2⟩
  · rw [h]; exact ⟨by decide, rfl, rfl⟩
  · rw [h]
    rcases h2 with h2 | h2 | h2 <;> rw [h2] <;> exact ⟨by decide, rfl, rfl⟩
theorem sufs_stop {l : List Tk} {j : Int} {t : Tk} {r : List Tk} (h : TA l j (t :: r)) (ht : stopT t) (xs : List Tf) : sufsA l.length l xs j = .ok (pipedF xs) j := by
  have hl := h.lt
  have h0 := h.1
  obtain ⟨n, hn⟩ : ∃ n, l.length = n + 1 := ⟨l.length - 1, by unfold len at hl; omega⟩
  rw [hn, sufsA, h.at, h.isM, if_neg (by rw [ht.no.2.1]; intro h; rcases h with h | h; exact ht.no.1 h; cases h)]
theorem fil_pos {q : Str → Str} {f : Nat} {l : List Tk} {d i j : Int} {x : Tf} {t : Tk} {r : List Tk} (hp : posA q (f + 1) l d i = .ok x j) (h : TA l j (t :: r)) (ht : stopT t) : filA q (f + 2) l d i = .ok x j := by
  rw [filA, hp]
  show pipA q (f + 1) l d [x] j = _
  rw [pipA, h.isM, ht.no.2.2]; rfl
theorem fil_er {q : Str → Str} {f : Nat} {l : List Tk} {d i e p : Int} (hp : posA q f l d i = .er e p) : filA q (f + 1) l d i = .er e p := by rw [filA, hp]; rfl
theorem ncall_er {l : List Tk} {d i p e p2 : Int} {X : Int → PR Tf} {u : List Tk} (h : TA l i (mkT [40] p :: u)) (hd : d < 64) (hx : X (i + 1) = .er e p2) : callA l d i X = .er e p2 := by
  have hm : isM l i [40] = true := by rw [h.isM]; rfl
  unfold callA openA needA
  rw [hm, if_neg (by simp; omega), if_pos rfl]
  show (X (i + 1)).bind _ = _
  rw [hx]; rfl
theorem ncall_ok {l : List Tk} {d i j p p2 : Int} {x : Tf} {X : Int → PR Tf} {u u2 : List Tk} (h : TA l i (mkT [40] p :: u)) (hd : d < 64) (hx : X (i + 1) = .ok x j) (h2 : TA l j (mkT [41] p2 :: u2)) : callA l d i X = .ok x (j + 1) := by
  have hm : isM l i [40] = true := by rw [h.isM]; rfl
  unfold callA openA
  rw [hm, if_neg (by simp; omega)]
  unfold needA
  rw [if_pos hm]
  show (X (i + 1)).bind _ = _
  rw [hx]
  show ((if isM l j [41] = true then PR.ok () (j + 1) else failA l j 1).bind fun _ m => .ok x m) = _
  rw [if_pos (by rw [h2.isM]; rfl)]; rfl
theorem pos_of {q : Str → Str} {f : Nat} {l : List Tk} {d i j : Int} {x : Tf} {t t2 : Tk} {u r : List Tk} (h : TA l i (t :: u)) (hx : priA q f l d i = .ok x j) (h2 : TA l j (t2 :: r)) (ht : stopT t2) : posA q (f + 1) l d i = .ok x j := by
  rw [posA, hx]
  show sufsA l.length l (if isM l i [46] && isM l j [91] then [] else [x]) j = _
  rw [h2.isM, ht.no.2.1, Bool.and_false, if_neg (by decide), sufs_stop h2 ht]; rfl
theorem pos_er {q : Str → Str} {f : Nat} {l : List Tk} {d i e p : Int} (hx : priA q f l d i = .er e p) : posA q (f + 1) l d i = .er e p := by rw [posA, hx]; rfl
end Go.Eng
set_option maxRecDepth 100000
namespace Go.Proofs.YtmjpjbmeamnfpaaGreatDoor
open Go.Eng

theorem fieldsTm : Tryz.prog.underlying 51 = some (.struct (Tryz.prog.fieldsOf 51)) := by kernel_rfl
theorem fieldsLTm : (Tryz.prog.fieldsOf 51).toList = [⟨ "Op", 3, 0, false, "", "", 0⟩, ⟨ "Many", 3, 1, false, "", "", 8⟩, ⟨ "Name", 9, 2, false, "", "", 16⟩, ⟨ "S", 9, 3, false, "", "", 32⟩, ⟨ "N", 3, 4, false, "", "", 48⟩, ⟨ "C", 46, 5, false, "", "", 56⟩] := by kernel_rfl
theorem eqInTm (d : Nat) (a b : Tm) (w : World) : (Op.equalIn (d + 1 + 1 + 1) 51 (.agg (Tm.cells a).toArray) (.agg (Tm.cells b).toArray)).run Tryz.prog w = .ok (decide (a = b)) w := by
  rw [run_equalIn_agg w _ _ _ _ fieldsTm Tryz.stoodInHeld51, fieldsLTm]
  rw [eqF_cons (P := Tryz.prog) (w := w) (xs := (Tm.cells a).toArray) (ys := (Tm.cells b).toArray) (f := ⟨ "Op", 3, 0, false, "", "", 0⟩) (by decide) (show (part 3 (Tm.cells a).toArray 0).run Tryz.prog w = .ok (i64 ((a).op)) w by kernel_rfl) (show (part 3 (Tm.cells b).toArray 0).run Tryz.prog w = .ok (i64 ((b).op)) w by kernel_rfl) (eqI Tryz.underlying3 w (d + 1) ((a).op) ((b).op))]
  rw [eqF_cons (P := Tryz.prog) (w := w) (xs := (Tm.cells a).toArray) (ys := (Tm.cells b).toArray) (f := ⟨ "Many", 3, 1, false, "", "", 8⟩) (by decide) (show (part 3 (Tm.cells a).toArray 1).run Tryz.prog w = .ok (i64 ((a).many)) w by kernel_rfl) (show (part 3 (Tm.cells b).toArray 1).run Tryz.prog w = .ok (i64 ((b).many)) w by kernel_rfl) (eqI Tryz.underlying3 w (d + 1) ((a).many) ((b).many))]
  rw [eqF_cons (P := Tryz.prog) (w := w) (xs := (Tm.cells a).toArray) (ys := (Tm.cells b).toArray) (f := ⟨ "Name", 9, 2, false, "", "", 16⟩) (by decide) (show (part 9 (Tm.cells a).toArray 2).run Tryz.prog w = .ok (str ((a).name)) w by kernel_rfl) (show (part 9 (Tm.cells b).toArray 2).run Tryz.prog w = .ok (str ((b).name)) w by kernel_rfl) (eqS Tryz.underlying9 w (d + 1) ((a).name) ((b).name))]
  rw [eqF_cons (P := Tryz.prog) (w := w) (xs := (Tm.cells a).toArray) (ys := (Tm.cells b).toArray) (f := ⟨ "S", 9, 3, false, "", "", 32⟩) (by decide) (show (part 9 (Tm.cells a).toArray 3).run Tryz.prog w = .ok (str ((a).s)) w by kernel_rfl) (show (part 9 (Tm.cells b).toArray 3).run Tryz.prog w = .ok (str ((b).s)) w by kernel_rfl) (eqS Tryz.underlying9 w (d + 1) ((a).s) ((b).s))]
  rw [eqF_cons (P := Tryz.prog) (w := w) (xs := (Tm.cells a).toArray) (ys := (Tm.cells b).toArray) (f := ⟨ "N", 3, 4, false, "", "", 48⟩) (by decide) (show (part 3 (Tm.cells a).toArray 4).run Tryz.prog w = .ok (i64 ((a).n)) w by kernel_rfl) (show (part 3 (Tm.cells b).toArray 4).run Tryz.prog w = .ok (i64 ((b).n)) w by kernel_rfl) (eqI Tryz.underlying3 w (d + 1) ((a).n) ((b).n))]
  rw [eqF_cons (P := Tryz.prog) (w := w) (xs := (Tm.cells a).toArray) (ys := (Tm.cells b).toArray) (f := ⟨ "C", 46, 5, false, "", "", 56⟩) (by decide) (show (part 46 (Tm.cells a).toArray 5).run Tryz.prog w = .ok (.agg (Nd.cells ((a).c)).toArray) w by kernel_rfl) (show (part 46 (Tm.cells b).toArray 5).run Tryz.prog w = .ok (.agg (Nd.cells ((b).c)).toArray) w by kernel_rfl) (eqInNd d ((a).c) ((b).c) w)]
  have ht : (.ok true w : Result Bool) = .ok (decide True) w := rfl
  rw [eqF_nil, ht]
  simp only [ite_ok]
  have hp : ((a).op = (b).op ∧ (a).many = (b).many ∧ (a).name = (b).name ∧ (a).s = (b).s ∧ (a).n = (b).n ∧ (a).c = (b).c ∧ True) ↔ a = b := by cases a; cases b; simp
  rw [decide_eq_decide.2 hp]
theorem eqTm (x y : Operand) (a b : Tm) (w : World) : (do eqGuard .eql 51 x y (.agg (Tm.cells a).toArray) (.agg (Tm.cells b).toArray); binOp .eql 51 (.agg (Tm.cells a).toArray) (.agg (Tm.cells b).toArray) : Sem Value).run Tryz.prog w = .ok (.bool (decide (a = b))) w := run_eql_of x y w Tryz.eqGuardType51 (eqInTm 9997 a b w)
theorem neTm (x y : Operand) (a b : Tm) (w : World) : (do eqGuard .neq 51 x y (.agg (Tm.cells a).toArray) (.agg (Tm.cells b).toArray); binOp .neq 51 (.agg (Tm.cells a).toArray) (.agg (Tm.cells b).toArray) : Sem Value).run Tryz.prog w = .ok (.bool (!(decide (a = b)))) w := run_neq_of x y w Tryz.eqGuardType51 (eqInTm 9997 a b w)

end Go.Proofs.YtmjpjbmeamnfpaaGreatDoor
set_option maxRecDepth 100000
namespace Go.Proofs.YtmjpjbmeamnfpaaGreatDoor
open Go.Eng

theorem eok_app {a b : List Ck} (ha : EOk a) (hb : EOk b) : EOk (a ++ b) := fun c hc => (List.mem_append.1 hc).elim (ha c) (hb c)
theorem eok_one {x y : Bool} (h : x = true → y = true) : EOk [.b x y] := fun c hc => by rw [List.mem_singleton.1 hc]; exact h
abbrev xTm (t : Tm) : XV := .ag [I t.op, I t.many, .v (str t.name), .v (str t.s), I t.n, I t.c.kind, I t.c.many, .v (str t.c.name), .v (str t.c.s), .v (.bool t.c.neg), I t.c.e]
abbrev lit1 : Str := [46, 97, 91, 49, 58, 93]
abbrev lit2 : Str := [109, 97, 112, 40, 115, 101, 108, 101, 99, 116, 40, 46, 97, 32, 61, 61, 32, 49, 32, 97, 110, 100, 32, 40, 46, 98, 32, 60, 32, 50, 32, 124, 32, 110, 111, 116, 41, 41, 32, 124, 32, 123, 120, 58, 32, 46, 99, 44, 32, 34, 121, 32, 122, 34, 58, 32, 40, 46, 100, 32, 124, 32, 46, 101, 41, 125, 41]
abbrev lit3 : Str := [46, 97, 32, 124, 32, 93]
theorem lit1_is : parseF quoteP lit1 = ([{ tmF 4 with many := 2 }, { tmF 1 with s := [97] }, { tmF 3 with n := 1 }], 0, 0) := by decide +kernel
theorem lit2_is : (parseF quoteP lit2).2.2 = 0 ∧ len (parseF quoteP lit2).1 = 12 := by decide +kernel
theorem lit3_is : parseF quoteP lit3 = ([], 5, 1) := by decide +kernel
theorem alive9_c (w : World) (hg : Gl w) :
    Calls Tryz.prog 10 [].toArray w fun e w' => e = .returned (.bool true) ∧ Ext w w' := by
 refine xenter ttok Tryz.func10 rfl Tryz.ntmps10 [] [] [] rfl (st0 w) fnil (fun B hB => ?_) rfl
 refine xcallM (fun h : SlH => .tu [.sl 1 h.v, I 0, I 0]) [1] rfl (eok rfl) (by omega) rfl Tryz.call11 rfl rfl (eok rfl) (fun w M hX => by have := parseP_c lit1 w M hX.st.sat (hg.low hX.st.low) (by decide); rw [lit1_is] at this; exact this) (fun _ => rfl) fun h1 _ => ?_
 refine xcallM (fun h : SlH => .tu [.sl 2 h.v, I (parseF quoteP lit2).2.1, I (parseF quoteP lit2).2.2]) [2] rfl (eok rfl) (by omega) rfl Tryz.call11 rfl rfl (eok rfl) (fun w M hX => parseP_c lit2 w M hX.st.sat (hg.low hX.st.low) (by decide)) (fun _ => rfl) fun h2 _ => ?_
 refine xcallM (fun h : SlH => .tu [.sl 3 h.v, I 5, I 1]) [3] rfl (eok rfl) (by omega) rfl Tryz.call11 rfl rfl (eok rfl) (fun w M hX => by have := parseP_c lit3 w M hX.st.sat (hg.low hX.st.low) (by decide); rw [lit3_is] at this; exact this) (fun _ => rfl) fun h3 _ => ?_
 have ⟨e1, e2⟩ := lit2_is
 refine xpv (.v (.bool (decide ({ tmF 3 with n := 1 } = ({ tmF 3 with n := 1 } : Tm))))) rfl ?_ ?_ rfl (fun w M hX => PV.bin (opd_d (v := xTm { tmF 3 with n := 1 }) rfl (eok rfl)) (opd_d (v := xTm { tmF 3 with n := 1 }) rfl (eok rfl)) (fun _ w _ => eqTm _ _ _ _ w)) ?_
 ·repeat' first | exact eok rfl | exact eok_one (fun _ => rfl) | apply eok_app
 ·decide
 refine xret hB rfl rfl (eok rfl) (by omega) rfl (eok rfl) fun w M hX => ⟨?_, hX.st.low⟩
 show Ending.returned (.bool _) = _
 rw [e1, e2]; rfl
end Go.Proofs.YtmjpjbmeamnfpaaGreatDoor
namespace Go.Eng

/-- What the one way gives, the other gives, so many tokens behind; or it is too deep there (b). -/
def Sm {α : Type} (b : Bool) (o : Int) (r r' : PR α) : Prop :=
  (∀ x j, r = .ok x j → r' = .ok x (j + o) ∨ (b = true ∧ ∃ p, r' = .er 3 p)) ∧ (b = false → ∀ p, r = .er 3 p → ∃ p', r' = .er 3 p')
theorem Sm.ok {α : Type} {b : Bool} {o : Int} {x : α} {j j' : Int} (h : j' = j + o) : Sm b o (.ok x j) (.ok x j') :=
  ⟨fun y k e => (by cases e; subst h; exact .inl rfl), fun _ p e => (by cases e)⟩
theorem Sm.fail {α : Type} {b : Bool} {o : Int} {l : List Tk} {i : Int} {r' : PR α} : Sm b o (failA l i 1) r' :=
  ⟨fun y k e => (by cases e), fun _ p e => (by cases e)⟩
theorem Sm.bind {α β : Type} {b : Bool} {o : Int} {r r' : PR α} {k k' : α → Int → PR β} (h : Sm b o r r') (hk : ∀ x j, r = .ok x j → Sm b o (k x j) (k' x (j + o))) : Sm b o (r.bind k) (r'.bind k') := by
  cases r with
  | er c p =>
    refine ⟨fun y m e => (by cases e), fun hb p2 e => ?_⟩
    have e2 : PR.er (α := α) c p = .er 3 p2 := by cases e; rfl
    obtain ⟨p', h2⟩ := h.2 hb p2 e2
    exact ⟨p', by rw [h2]; rfl⟩
  | ok x j =>
    rcases h.1 x j rfl with h2 | ⟨hb, p, h2⟩
    · rw [h2]; exact hk x j rfl
    · rw [h2]; exact ⟨fun y m e => .inr ⟨hb, p, rfl⟩, fun hb2 => by rw [hb] at hb2; cases hb2⟩
/-- The one's tokens within the other's. -/
structure Vw (l l' : List Tk) (o : Int) : Prop where
  eq : ∀ i, 0 ≤ i → i < len l → (at' l i).kind ≠ 6 → (at' l' (i + o)).kind = (at' l i).kind ∧ (at' l' (i + o)).s = (at' l i).s ∧ (at' l' (i + o)).c = (at' l i).c
  en : ∀ i, 0 ≤ i → i < len l → (at' l i).kind = 6 → (at' l' (i + o)).kind = 6 ∨ ((at' l' (i + o)).kind = 1 ∧ (at' l' (i + o)).s = [41])
  few : l.length ≤ l'.length
section
variable {l l' : List Tk} {o : Int} (hl : LexOk l) (v : Vw l l' o) {b : Bool} {i : Int} (h0 : 0 ≤ i) (h1 : i < len l)
include v h0 h1
theorem Vw.isM {m : Str} (hm : m ≠ [41]) : isM l' (i + o) m = isM l i m := by
  unfold Go.Eng.isM
  by_cases h : (at' l i).kind = 6
  · have h2 : ((at' l i).kind == 1) = false := by rw [h]; rfl
    rw [h2, Bool.false_and]
    rcases v.en i h0 h1 h with h3 | ⟨h3, h4⟩
    · have : ((at' l' (i + o)).kind == 1) = false := by rw [h3]; rfl
      rw [this, Bool.false_and]
    · have : ((at' l' (i + o)).s == m) = false := by rw [h4, beq_eq_false_iff_ne]; exact fun e => hm e.symm
      rw [this, Bool.and_false]
  · obtain ⟨h2, h3, _⟩ := v.eq i h0 h1 h
    rw [h2, h3]
theorem Vw.isM' {m : Str} (hm : Go.Eng.isM l i m = true) : Go.Eng.isM l' (i + o) m = true := by
  have h : (at' l i).kind ≠ 6 := fun e => by unfold Go.Eng.isM at hm; rw [e] at hm; simp at hm
  obtain ⟨h2, h3, _⟩ := v.eq i h0 h1 h
  unfold Go.Eng.isM at hm ⊢
  rw [h2, h3]; exact hm
theorem Vw.isW {m : Str} : isWd l' (i + o) m = isWd l i m := by
  unfold isWd
  by_cases h : (at' l i).kind = 6
  · have h2 : ((at' l i).kind == 2) = false := by rw [h]; rfl
    rw [h2, Bool.false_and]
    rcases v.en i h0 h1 h with h3 | ⟨h3, h4⟩
    · have : ((at' l' (i + o)).kind == 2) = false := by rw [h3]; rfl
      rw [this, Bool.false_and]
    · have : ((at' l' (i + o)).kind == 2) = false := by rw [h3]; rfl
      rw [this, Bool.false_and]
  · obtain ⟨h2, h3, _⟩ := v.eq i h0 h1 h
    rw [h2, h3]
theorem Vw.kind {k : Int} (hk : k ≠ 1 ∧ k ≠ 6) : ((at' l' (i + o)).kind = k) = ((at' l i).kind = k) := by
  by_cases h : (at' l i).kind = 6
  · rw [h]
    rcases v.en i h0 h1 h with h3 | ⟨h3, _⟩
    · rw [h3]
    · rw [h3]; exact propext ⟨fun e => (hk.1 e.symm).elim, fun e => (hk.2 e.symm).elim⟩
  · rw [(v.eq i h0 h1 h).1]
theorem Vw.tok {k : Int} (hk : k ≠ 6) (h : (at' l i).kind = k) : (at' l' (i + o)).kind = k ∧ (at' l' (i + o)).s = (at' l i).s ∧ (at' l' (i + o)).c = (at' l i).c := by
  have := v.eq i h0 h1 (by rw [h]; exact hk)
  rw [h] at this; exact this
theorem Sm.need {m : Str} : Sm b o (needA l i m) (needA l' (i + o) m) := by
  unfold needA
  by_cases h : Go.Eng.isM l i m = true
  · rw [if_pos h, if_pos (v.isM' h0 h1 h)]; exact .ok (by omega)
  · rw [if_neg h]; exact .fail
theorem Sm.op {m : Str} {d d' : Int} (hd : b = false → d = d') : Sm b o (openA l d i m) (openA l' d' (i + o) m) := by
  unfold openA
  by_cases h : Go.Eng.isM l i m = true
  · have h' := v.isM' h0 h1 h
    rw [h, h', Bool.true_and, Bool.true_and]
    by_cases h6 : 64 ≤ d
    · rw [if_pos (decide_eq_true h6)]
      refine ⟨fun x j e => (by cases e), fun hb p e => ?_⟩
      rw [← hd hb, if_pos (decide_eq_true h6)]; exact ⟨_, rfl⟩
    · rw [if_neg (by simpa using h6)]
      by_cases h7 : 64 ≤ d'
      · rw [if_pos (decide_eq_true h7)]
        cases b with
        | true => exact ⟨fun x j e => .inr ⟨rfl, _, rfl⟩, fun hb => (by cases hb)⟩
        | false => exact (h6 (by rw [hd rfl]; exact h7)).elim
      · rw [if_neg (by simpa using h7)]; exact Sm.need v h0 h1
  · have h2 : Go.Eng.isM l i m = false := by simpa using h
    rw [h2, Bool.false_and, if_neg (by simp)]
    unfold needA; rw [if_neg h]; exact .fail
theorem Sm.whole : Sm b o (wholeA l i) (wholeA l' (i + o)) := by
  by_cases h : (at' l i).kind = 5
  · obtain ⟨h2, _, h3⟩ := v.tok h0 h1 (by decide) h
    have e : wholeN (at' l' (i + o)) = wholeN (at' l i) := by unfold wholeN; rw [h3]
    unfold wholeA
    rw [h2, h, h3, e]
    split
    · exact .fail
    · split
      · exact .fail
      · exact .ok (by omega)
  · unfold wholeA; rw [if_pos (.inl h)]; exact .fail
include hl
theorem Sm.call {α : Type} {d d' : Int} {X X' : Int → PR α} (hd : b = false → d = d') (hX : i + 1 < len l → Sm b o (X (i + 1)) (X' (i + 1 + o))) (hb : ∀ x k, i + 1 < len l → X (i + 1) = .ok x k → 0 ≤ k ∧ k < len l) : Sm b o (callA l d i X) (callA l' d' (i + o) X') := by
  unfold callA
  refine Sm.bind (Sm.op v h0 h1 hd) fun u j e => ?_
  obtain ⟨rfl, h2, _, _⟩ := open_ok hl h0 h1 e
  refine Sm.bind (hX h2) fun x k e2 => ?_
  obtain ⟨h3, h4⟩ := hb x k h2 e2
  exact Sm.bind (Sm.need v h3 h4) fun _ m _ => .ok rfl
theorem Sm.suf (hk : (at' l i).kind = 3 ∨ Go.Eng.isM l i [91] = true) : Sm b o (sufA l i) (sufA l' (i + o)) := by
  unfold sufA
  by_cases h : (at' l i).kind = 3
  · obtain ⟨h2, h3, _⟩ := v.tok h0 h1 (by decide) h
    rw [if_pos h, if_pos h2, h3]; exact .ok (by omega)
  · rw [if_neg h, if_neg (by rw [v.kind h0 h1 (by decide)]; exact h)]
    have hi := isM_lt hl h0 h1 (hk.resolve_left h)
    have e : i + o + 1 = i + 1 + o := by omega
    rw [e]
    refine Sm.bind (Sm.whole v (by omega) hi) fun n j e => ?_
    obtain ⟨rfl, h5, _, _⟩ := whole_ok hl (by omega) hi e
    rw [v.isM (by omega) h5 (by decide)]
    split
    · rename_i h6
      have h7 := isM_lt hl (by omega) h5 h6
      have e : i + 1 + 1 + o + 1 = i + 1 + 1 + 1 + o := by omega
      rw [e]
      exact Sm.bind (Sm.need v (by omega) h7) fun _ m _ => .ok rfl
    · exact Sm.bind (Sm.need v (by omega) h5) fun _ m _ => .ok rfl
omit h0 h1 in
theorem Sm.sufs : ∀ (f f' : Nat) (xs : List Tf) (i : Int), f ≤ f' → 0 ≤ i → i < len l → Sm b o (sufsA f l xs i) (sufsA f' l' xs (i + o))
  | 0, _, xs, i, _, _, _ => .fail
  | f + 1, 0, xs, i, h, _, _ => by omega
  | f + 1, f' + 1, xs, i, hf, h0, h1 => by
    unfold sufsA
    have e : ((at' l' (i + o)).kind = 3 ∨ Go.Eng.isM l' (i + o) [91] = true) = ((at' l i).kind = 3 ∨ Go.Eng.isM l i [91] = true) := by rw [v.kind h0 h1 (by decide), v.isM h0 h1 (by decide)]
    by_cases h : (at' l i).kind = 3 ∨ Go.Eng.isM l i [91] = true
    · rw [if_pos h, if_pos (e.mpr h)]
      refine Sm.bind (Sm.suf hl v h0 h1 h) fun x j e2 => ?_
      have g := (suf_ok hl h0 h1 h e2).1
      exact Sm.sufs f f' _ j (by omega) (by have := g.lt; omega) g.le
    · rw [if_neg h, if_neg (fun h' => h (e.mp h'))]; exact .ok rfl
omit h0 h1 in
theorem Sm.steps {dot : Bool} : ∀ (f f' : Nat) (xs : List Sp) (i : Int), f ≤ f' → 0 ≤ i → i < len l → Sm b o (stepsA dot f l xs i) (stepsA dot f' l' xs (i + o))
  | 0, _, xs, i, _, _, _ => .fail
  | f + 1, 0, xs, i, h, _, _ => by omega
  | f + 1, f' + 1, xs, i, hf, h0, h1 => by
    unfold stepsA
    have e : (Go.Eng.isM l' (i + o) [91] = true ∨ (at' l' (i + o)).kind = 3 ∧ (dot = false ∨ xs ≠ [])) = (Go.Eng.isM l i [91] = true ∨ (at' l i).kind = 3 ∧ (dot = false ∨ xs ≠ [])) := by rw [v.kind h0 h1 (by decide), v.isM h0 h1 (by decide)]
    by_cases h : Go.Eng.isM l i [91] = true ∨ (at' l i).kind = 3 ∧ (dot = false ∨ xs ≠ [])
    · rw [if_pos h, if_pos (e.mpr h)]
      split
      · exact .fail
      · have hi : i + 1 < len l := by
          rcases h with h | ⟨h, _⟩
          · exact isM_lt hl h0 h1 h
          · exact kind_lt hl h0 h1 h (by decide)
        have hk6 : (at' l i).kind ≠ 6 := by
          rcases h with h | ⟨h, _⟩
          · intro e6; unfold Go.Eng.isM at h; rw [e6] at h; simp at h
          · rw [h]; decide
        obtain ⟨h2, h3, _⟩ := v.eq i h0 h1 hk6
        rw [h2, h3, show i + o + 1 = i + 1 + o from by omega]
        split
        · refine Sm.bind (Sm.whole v (by omega) hi) fun n j e2 => ?_
          obtain ⟨rfl, h5, _, _⟩ := whole_ok hl (by omega) hi e2
          refine Sm.bind (Sm.need v (by omega) h5) fun u k e3 => ?_
          obtain ⟨rfl, h6, _⟩ := need_ok hl (by omega) h5 e3
          exact Sm.steps f f' _ _ (by omega) (by omega) h6
        · exact Sm.steps f f' _ _ (by omega) (by omega) hi
    · rw [if_neg h, if_neg (fun h' => h (e.mp h'))]; exact .ok rfl
theorem Sm.path {q : Str → Str} : Sm b o (pathA q l i) (pathA q l' (i + o)) := by
  unfold pathA
  rw [v.isM h0 h1 (by decide)]
  split
  · rename_i h
    rw [show i + o + 1 = i + 1 + o from by omega]
    exact Sm.bind (Sm.steps hl v _ _ _ _ v.few (by omega) (isM_lt hl h0 h1 h)) fun xs j _ => .ok rfl
  · by_cases h3 : (at' l i).kind = 3
    · have h3' := (v.kind h0 h1 (k := 3) (by decide)).mpr h3
      rw [if_neg (fun n => n h3), if_neg (fun n => n h3')]
      exact Sm.bind (Sm.steps hl v _ _ _ _ v.few h0 h1) fun xs j _ => .ok rfl
    · rw [if_pos h3]; exact .fail
omit hl in
theorem Sm.lit : Sm b o (litA l i) (litA l' (i + o)) := by
  by_cases h6 : (at' l i).kind = 6
  · have e : litA l i = failA l i 1 := by
      unfold litA; rw [h6]; simp
    rw [e]; exact .fail
  · obtain ⟨h2, h3, h4⟩ := v.eq i h0 h1 h6
    unfold litA
    rw [h2, h3, h4]
    split
    · exact .ok (by omega)
    · split
      · exact .ok (by omega)
      · split
        · exact .ok (by omega)
        · exact .fail
theorem Sm.cmp {q : Str → Str} : Sm b o (cmpA q l i) (cmpA q l' (i + o)) := by
  unfold cmpA
  refine Sm.bind (Sm.path hl v h0 h1) fun s j e => ?_
  obtain ⟨h4, h5⟩ := path_ok hl h0 h1 e
  by_cases h : (at' l j).kind = 1 ∧ (at' l j).s ∈ signsA
  · obtain ⟨h2, h3, _⟩ := v.eq j (by omega) h5 (by rw [h.1]; decide)
    rw [if_pos h, h2, h3, if_pos h, show j + o + 1 = j + 1 + o from by omega]
    exact Sm.bind (Sm.lit v (by omega) (kind_lt hl (by omega) h5 h.1 (by decide))) fun c k _ => .ok rfl
  · rw [if_neg h]; exact .fail
end
section
variable {l l' : List Tk} {o : Int} (hl : LexOk l) (v : Vw l l' o) (b : Bool) (q : Str → Str)
structure AllS (l l' : List Tk) (o : Int) (b : Bool) (q : Str → Str) (f : Nat) : Prop where
  fil : ∀ f' d d' i, f ≤ f' → (b = false → d = d') → 0 ≤ i → i < len l → Sm b o (filA q f l d i) (filA q f' l' d' (i + o))
  pip : ∀ f' d d' xs i, f ≤ f' → (b = false → d = d') → 0 ≤ i → i < len l → Sm b o (pipA q f l d xs i) (pipA q f' l' d' xs (i + o))
  pos : ∀ f' d d' i, f ≤ f' → (b = false → d = d') → 0 ≤ i → i < len l → Sm b o (posA q f l d i) (posA q f' l' d' (i + o))
  pri : ∀ f' d d' i, f ≤ f' → (b = false → d = d') → 0 ≤ i → i < len l → Sm b o (priA q f l d i) (priA q f' l' d' (i + o))
  wor : ∀ f' d d' i, f ≤ f' → (b = false → d = d') → 0 ≤ i → i < len l → (at' l i).kind = 2 → Sm b o (worA q f l d i) (worA q f' l' d' (i + o))
  obs : ∀ f' d d' xs i, f ≤ f' → (b = false → d = d') → 0 ≤ i → i < len l → Sm b o (obsA q f l d xs i) (obsA q f' l' d' xs (i + o))
  lis : ∀ f' d d' xs i, f ≤ f' → (b = false → d = d') → 0 ≤ i → i < len l → Sm b o (lisA q f l d xs i) (lisA q f' l' d' xs (i + o))
  eit : ∀ f' d d' i, f ≤ f' → (b = false → d = d') → 0 ≤ i → i < len l → Sm b o (eitA q f l d i) (eitA q f' l' d' (i + o))
  eis : ∀ f' d d' x i, f ≤ f' → (b = false → d = d') → 0 ≤ i → i < len l → Sm b o (eisA q f l d x i) (eisA q f' l' d' x (i + o))
  bot : ∀ f' d d' i, f ≤ f' → (b = false → d = d') → 0 ≤ i → i < len l → Sm b o (botA q f l d i) (botA q f' l' d' (i + o))
  bos : ∀ f' d d' x i, f ≤ f' → (b = false → d = d') → 0 ≤ i → i < len l → Sm b o (bosA q f l d x i) (bosA q f' l' d' x (i + o))
  sin : ∀ f' d d' i, f ≤ f' → (b = false → d = d') → 0 ≤ i → i < len l → Sm b o (sinA q f l d i) (sinA q f' l' d' (i + o))
include hl v in
theorem all_sim : ∀ f, AllS l l' o b q f
  | 0 => ⟨fun _ _ _ _ _ _ _ _ => .fail, fun _ _ _ _ _ _ _ _ _ => .fail, fun _ _ _ _ _ _ _ _ => .fail, fun _ _ _ _ _ _ _ _ => .fail, fun _ _ _ _ _ _ _ _ _ => .fail, fun _ _ _ _ _ _ _ _ _ => .fail,
      fun _ _ _ _ _ _ _ _ _ => .fail, fun _ _ _ _ _ _ _ _ => .fail, fun _ _ _ _ _ _ _ _ _ => .fail, fun _ _ _ _ _ _ _ _ => .fail, fun _ _ _ _ _ _ _ _ _ => .fail, fun _ _ _ _ _ _ _ _ => .fail⟩
  | f + 1 => by
    have ih := all_sim f
    have G := all_good hl q f
    constructor
    · intro f' d d' i hf hd h0 h1
      obtain ⟨f', rfl⟩ : ∃ k, f' = k + 1 := ⟨f' - 1, by omega⟩
      unfold filA
      refine Sm.bind (ih.pos f' d d' i (by omega) hd h0 h1) fun x j e => ?_
      have g := G.pos d i x j h0 h1 e
      exact ih.pip f' d d' [x] j (by omega) hd (by have := g.lt; omega) g.le
    · intro f' d d' xs i hf hd h0 h1
      obtain ⟨f', rfl⟩ : ∃ k, f' = k + 1 := ⟨f' - 1, by omega⟩
      unfold pipA
      rw [v.isM h0 h1 (by decide)]
      split
      · rename_i hm
        have h2 := isM_lt hl h0 h1 hm
        rw [show i + o + 1 = i + 1 + o from by omega]
        refine Sm.bind (ih.pos f' d d' (i + 1) (by omega) hd (by omega) h2) fun x j e => ?_
        have g := G.pos d (i + 1) x j (by omega) h2 e
        exact ih.pip f' d d' _ j (by omega) hd (by have := g.lt; omega) g.le
      · exact .ok rfl
    · intro f' d d' i hf hd h0 h1
      obtain ⟨f', rfl⟩ : ∃ k, f' = k + 1 := ⟨f' - 1, by omega⟩
      unfold posA
      refine Sm.bind (ih.pri f' d d' i (by omega) hd h0 h1) fun x j e => ?_
      have g := G.pri d i x j h0 h1 e
      have hj : 0 ≤ j := by have := g.lt; omega
      rw [v.isM h0 h1 (by decide), v.isM hj g.le (by decide)]
      exact Sm.sufs hl v _ _ _ _ v.few hj g.le
    · intro f' d d' i hf hd h0 h1
      obtain ⟨f', rfl⟩ : ∃ k, f' = k + 1 := ⟨f' - 1, by omega⟩
      unfold priA
      rw [v.isM h0 h1 (by decide), v.isM h0 h1 (by decide), v.isM h0 h1 (by decide)]
      split
      · exact .ok (by omega)
      · by_cases h3 : (at' l i).kind = 3
        · obtain ⟨h4, h5, _⟩ := v.tok h0 h1 (by decide) h3
          rw [if_pos h3, if_pos h4, h5]; exact .ok (by omega)
        · rw [if_neg h3, if_neg (fun h => h3 ((v.kind h0 h1 (k := 3) (by decide)).mp h))]
          by_cases h2 : (at' l i).kind = 2
          · rw [if_pos h2, if_pos ((v.kind h0 h1 (k := 2) (by decide)).mpr h2)]
            exact ih.wor f' d d' i (by omega) hd h0 h1 h2
          · rw [if_neg h2, if_neg (fun h => h2 ((v.kind h0 h1 (k := 2) (by decide)).mp h))]
            split
            · refine Sm.bind (Sm.op v h0 h1 hd) fun u j e => ?_
              obtain ⟨rfl, h4, _⟩ := open_ok hl h0 h1 e
              exact ih.obs f' (d + 1) (d' + 1) [] _ (by omega) (fun h => by rw [hd h]) (by omega) h4
            · split
              · refine Sm.bind (Sm.op v h0 h1 hd) fun u j e => ?_
                obtain ⟨rfl, h4, _⟩ := open_ok hl h0 h1 e
                exact ih.lis f' (d + 1) (d' + 1) [] _ (by omega) (fun h => by rw [hd h]) (by omega) h4
              · exact Sm.call hl v h0 h1 hd (fun h => ih.fil f' (d + 1) (d' + 1) _ (by omega) (fun h => by rw [hd h]) (by omega) h) fun x k h e => by
                  have g := G.fil (d + 1) _ x k (by omega) h e
                  exact ⟨by have := g.lt; omega, g.le⟩
    · intro f' d d' i hf hd h0 h1 hk
      obtain ⟨f', rfl⟩ : ∃ k, f' = k + 1 := ⟨f' - 1, by omega⟩
      obtain ⟨_, h3, _⟩ := v.tok h0 h1 (by decide) hk
      have h2 := kind_lt hl h0 h1 hk (by decide)
      have e1 : i + o + 1 = i + 1 + o := by omega
      have hfil : Sm b o (callA l d (i + 1) (filA q f l (d + 1))) (callA l' d' (i + 1 + o) (filA q f' l' (d' + 1))) :=
        Sm.call hl v (by omega) h2 hd (fun h => ih.fil f' (d + 1) (d' + 1) _ (by omega) (fun h => by rw [hd h]) (by omega) h) fun x k h e => by
          have g := G.fil (d + 1) _ x k (by omega) h e
          exact ⟨by have := g.lt; omega, g.le⟩
      unfold worA
      rw [h3, e1]
      split
      · exact .ok (by omega)
      · split
        · refine Sm.call hl v (by omega) h2 hd (fun h => ?_) fun x k h e => ?_
          · exact Sm.bind (Sm.path hl v (by omega) h) fun s j _ => .ok rfl
          · obtain ⟨s, j, h4, h5⟩ := bind_ok e
            cases h5
            obtain ⟨h6, h7⟩ := path_ok hl (by omega) h h4
            exact ⟨by omega, h7⟩
        · split
          · exact Sm.bind hfil fun x j _ => .ok rfl
          · split
            · exact Sm.bind hfil fun x j _ => .ok rfl
            · split
              · exact Sm.bind hfil fun x j _ => .ok rfl
              · split
                · refine Sm.bind ?_ fun x j _ => .ok rfl
                  exact Sm.call hl v (by omega) h2 hd (fun h => ih.eit f' (d + 1) (d' + 1) _ (by omega) (fun h => by rw [hd h]) (by omega) h) fun x k h e => by
                    have g := G.eit (d + 1) _ x k (by omega) h e
                    exact ⟨by have := g.lt; omega, g.le⟩
                · exact .fail
    · intro f' d d' xs i hf hd h0 h1
      obtain ⟨f', rfl⟩ : ∃ k, f' = k + 1 := ⟨f' - 1, by omega⟩
      unfold obsA
      rw [v.isM h0 h1 (by decide)]
      split
      · exact .ok (by omega)
      · have h2 : Sm b o (if xs.isEmpty then PR.ok () i else needA l i [44]) (if xs.isEmpty then PR.ok () (i + o) else needA l' (i + o) [44]) := by
          split
          · exact .ok rfl
          · exact Sm.need v h0 h1
        refine Sm.bind h2 fun u j e => ?_
        have hj : 0 ≤ j ∧ j < len l := by
          split at e
          · cases e; exact ⟨h0, h1⟩
          · obtain ⟨rfl, h3, _⟩ := need_ok hl h0 h1 e; exact ⟨by omega, h3⟩
        by_cases hc : (at' l j).kind ≠ 2 ∧ (at' l j).kind ≠ 4 ∨ (at' l j).s ∈ xs.map (fun x => x.t.name)
        · rw [if_pos hc]; exact .fail
        · have hk : (at' l j).kind ≠ 6 := fun e6 => hc (.inl ⟨by rw [e6]; decide, by rw [e6]; decide⟩)
          obtain ⟨h4, h5, _⟩ := v.eq j hj.1 hj.2 hk
          rw [if_neg hc, h4, h5, if_neg hc, show j + o + 1 = j + 1 + o from by omega]
          have h6 := hl.last j hj.1 hj.2 hk
          refine Sm.bind (Sm.need v (by omega) h6) fun u k e2 => ?_
          obtain ⟨rfl, h7, _⟩ := need_ok hl (by omega) h6 e2
          refine Sm.bind (ih.pos f' d d' _ (by omega) hd (by omega) h7) fun x m e3 => ?_
          have g := G.pos d _ x m (by omega) h7 e3
          exact ih.obs f' d d' _ m (by omega) hd (by have := g.lt; omega) g.le
    · intro f' d d' xs i hf hd h0 h1
      obtain ⟨f', rfl⟩ : ∃ k, f' = k + 1 := ⟨f' - 1, by omega⟩
      unfold lisA
      rw [v.isM h0 h1 (by decide)]
      split
      · exact .ok (by omega)
      · have h2 : Sm b o (if xs.isEmpty then PR.ok () i else needA l i [44]) (if xs.isEmpty then PR.ok () (i + o) else needA l' (i + o) [44]) := by
          split
          · exact .ok rfl
          · exact Sm.need v h0 h1
        refine Sm.bind h2 fun u j e => ?_
        have hj : 0 ≤ j ∧ j < len l := by
          split at e
          · cases e; exact ⟨h0, h1⟩
          · obtain ⟨rfl, h3, _⟩ := need_ok hl h0 h1 e; exact ⟨by omega, h3⟩
        refine Sm.bind (ih.pos f' d d' _ (by omega) hd hj.1 hj.2) fun x m e3 => ?_
        have g := G.pos d _ x m hj.1 hj.2 e3
        exact ih.lis f' d d' _ m (by omega) hd (by have := g.lt; have := hj.1; omega) g.le
    · intro f' d d' i hf hd h0 h1
      obtain ⟨f', rfl⟩ : ∃ k, f' = k + 1 := ⟨f' - 1, by omega⟩
      unfold eitA
      refine Sm.bind (ih.bot f' d d' i (by omega) hd h0 h1) fun x j e => ?_
      have g := G.bot d i x j h0 h1 e
      exact ih.eis f' d d' x j (by omega) hd (by have := g.lt; omega) g.le
    · intro f' d d' x i hf hd h0 h1
      obtain ⟨f', rfl⟩ : ∃ k, f' = k + 1 := ⟨f' - 1, by omega⟩
      unfold eisA
      rw [v.isW h0 h1]
      split
      · rename_i hm
        have h2 : i + 1 < len l := hl.last i h0 h1 fun e => by unfold isWd at hm; rw [e] at hm; simp at hm
        rw [show i + o + 1 = i + 1 + o from by omega]
        refine Sm.bind (ih.bot f' d d' (i + 1) (by omega) hd (by omega) h2) fun y j e => ?_
        have g := G.bot d (i + 1) y j (by omega) h2 e
        exact ih.eis f' d d' _ j (by omega) hd (by have := g.lt; omega) g.le
      · exact .ok rfl
    · intro f' d d' i hf hd h0 h1
      obtain ⟨f', rfl⟩ : ∃ k, f' = k + 1 := ⟨f' - 1, by omega⟩
      unfold botA
      refine Sm.bind (ih.sin f' d d' i (by omega) hd h0 h1) fun x j e => ?_
      have g := G.sin d i x j h0 h1 e
      exact ih.bos f' d d' x j (by omega) hd (by have := g.lt; omega) g.le
    · intro f' d d' x i hf hd h0 h1
      obtain ⟨f', rfl⟩ : ∃ k, f' = k + 1 := ⟨f' - 1, by omega⟩
      unfold bosA
      rw [v.isW h0 h1]
      split
      · rename_i hm
        have h2 : i + 1 < len l := hl.last i h0 h1 fun e => by unfold isWd at hm; rw [e] at hm; simp at hm
        rw [show i + o + 1 = i + 1 + o from by omega]
        refine Sm.bind (ih.sin f' d d' (i + 1) (by omega) hd (by omega) h2) fun y j e => ?_
        have g := G.sin d (i + 1) y j (by omega) h2 e
        exact ih.bos f' d d' _ j (by omega) hd (by have := g.lt; omega) g.le
      · exact .ok rfl
    · intro f' d d' i hf hd h0 h1
      obtain ⟨f', rfl⟩ : ∃ k, f' = k + 1 := ⟨f' - 1, by omega⟩
      unfold sinA
      rw [v.isM h0 h1 (by decide)]
      split
      · exact Sm.cmp hl v h0 h1
      · refine Sm.bind (Sm.op v h0 h1 hd) fun u j e => ?_
        obtain ⟨rfl, h2, _⟩ := open_ok hl h0 h1 e
        refine Sm.bind (ih.eit f' (d + 1) (d' + 1) _ (by omega) (fun h => by rw [hd h]) (by omega) h2) fun x k e2 => ?_
        have g := G.eit (d + 1) _ x k (by omega) h2 e2
        have hk : 0 ≤ k := by have := g.lt; omega
        have h3 : Sm b o (if Go.Eng.isM l k [124] then (if isWd l (k + 1) sNot then PR.ok (Tf.mk (tmF 19) [x]) (k + 2) else failA l (k + 1) 1) else PR.ok x k) (if Go.Eng.isM l' (k + o) [124] then (if isWd l' (k + o + 1) sNot then PR.ok (Tf.mk (tmF 19) [x]) (k + o + 2) else failA l' (k + o + 1) 1) else PR.ok x (k + o)) := by
          rw [v.isM hk g.le (by decide)]
          split
          · rename_i hm
            have h4 := isM_lt hl hk g.le hm
            rw [show k + o + 1 = k + 1 + o from by omega, v.isW (by omega) h4]
            split
            · exact .ok (by omega)
            · exact .fail
          · exact .ok rfl
        refine Sm.bind h3 fun y m e4 => ?_
        have hm : 0 ≤ m ∧ m < len l := by
          split at e4
          · rename_i hm
            have h4 := isM_lt hl hk g.le hm
            split at e4
            · rename_i hw
              have h5 : k + 1 + 1 < len l := hl.last (k + 1) (by omega) h4 fun e => by unfold isWd at hw; rw [e] at hw; simp at hw
              cases e4; exact ⟨by omega, by omega⟩
            · exact (failA_no e4).elim
          · cases e4; exact ⟨hk, g.le⟩
        exact Sm.bind (Sm.need v hm.1 hm.2) fun _ n _ => .ok rfl
end
end Go.Eng
