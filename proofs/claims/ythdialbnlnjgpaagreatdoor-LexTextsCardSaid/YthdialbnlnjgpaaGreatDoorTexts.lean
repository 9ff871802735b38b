/-
  THE PLAIN LAW OF LexTexts: what lex writes for tokens that can be written is what the document's text is. No program in sight.
-/
import Derived.Test.YthdialbnlnjgpaaGreatDoorToks
import Derived.Test.YthdialbnlnjgpaaGreatDoorRefs
import Derived.Lib.Join
set_option linter.unusedVariables false
set_option linter.unusedSimpArgs false
namespace Go.Eng

theorem wordTo_all {s : Str} {i : Int} (h0 : 0 ≤ i) (h1 : i ≤ len s) (h : ∀ j : Int, i ≤ j → j < len s → isWordR (byteAt s j) (j == 0) = true) : wordTo s i = len s := by
  by_cases hlt : i < len s
  · rw [← wordTo_step h0 hlt (h i (Int.le_refl i) hlt)]
    exact wordTo_all (by omega) (by omega) (fun j a b => h j (by omega) b)
  · rw [wordTo_end hlt]; omega
termination_by (len s - i).toNat
theorem wordTo_lt {s : Str} {i : Int} (h0 : 0 ≤ i) (j : Int) (h1 : i ≤ j) (h2 : j < wordTo s i) : isWordR (byteAt s j) (j == 0) = true := by
  by_cases hlt : i < len s
  · cases hw : isWordR (byteAt s i) (i == 0) with
    | true =>
      by_cases e : j = i
      · subst e; exact hw
      · rw [← wordTo_step h0 hlt hw] at h2
        exact wordTo_lt (by omega) j (by omega) h2
    | false => rw [wordTo_stop h0 hlt hw] at h2; omega
  · rw [wordTo_end hlt] at h2; omega
termination_by (len s - i).toNat
theorem wordP_all {s : Str} (h : word6 s = true) : wordP s = s := by
  have h2 := word6_iff.1 h
  unfold wordP
  rw [wordTo_all (Int.le_refl 0) (len_nonneg s) (fun j a b => h2.2 j a b), sub_all _ _ (Int.le_refl _)]
theorem word6_of {s : Str} (h : wordP s = s) (h2 : s ≠ []) : word6 s = true := by
  have hl : len (wordP s) = len s := by rw [h]
  rw [wordP_len] at hl
  exact word6_iff.2 ⟨h2, fun j a b => wordTo_lt (Int.le_refl 0) j a (by omega)⟩
theorem word6_ne {s : Str} (h : word6 s = true) : s ≠ [] := (word6_iff.1 h).1
theorem name_eq {s : Str} (h : utf s = true) : (if ¬ wordP s = s ∨ s = [] then quoteP s else s) = name7 s := by
  unfold name7
  cases hw : word6 s with
  | true => rw [if_neg, if_pos rfl]; rintro (h1 | h1); exact h1 (wordP_all hw); exact word6_ne hw h1
  | false =>
    rw [if_pos, quote_eq h]; rfl
    by_cases e : s = []
    · exact .inr e
    · left; intro h1; rw [word6_of h1 e] at hw; cases hw
theorem oneP_eq {t : Tk} (h : right8 t = true) : oneP t = oneR t := by
  unfold oneP oneR
  unfold right8 at h
  split
  · rename_i h3
    rw [h3] at h
    simp at h
    rw [name_eq h.1]; rfl
  · rename_i h3
    split
    · rename_i h4
      rw [h4] at h
      simp at h
      rw [quote_eq h.1]
    · rfl
theorem right_kind {t : Tk} (h : right8 t = true) : (t.kind != 6) = true := by
  unfold right8 at h
  rw [bne_iff_ne]
  intro e
  rw [e] at h
  simp at h
theorem texts_given {l : List Tk} (h : ∀ t ∈ l, right8 t = true) : textsP l = l.map oneR := by
  unfold textsP
  rw [List.filter_eq_self.2 (fun t ht => right_kind (h t ht))]
  exact List.map_congr_left fun t ht => oneP_eq (h t ht)
theorem texts_end (l : List Tk) (e : Tk) (h : e.kind = 6) : textsP (l ++ [e]) = textsP l := by
  unfold textsP
  rw [List.filter_append]
  simp [h]
theorem given_right {l : List Tk} (h : given8 l = true) : ∀ t ∈ l, right8 t = true := by
  intro t ht
  unfold given8 at h
  simp only [Bool.and_eq_true, List.all_eq_true] at h
  exact (h.2 t ht).2
theorem right1_bd {n : Nd} (h : right1 n = true) : len n.s ≤ 1048576 ∧ -1000000 ≤ n.e ∧ n.e ≤ 1000000 := by
  unfold right1 at h
  split at h
  · cases h
  rename_i hc
  simp only [Bool.or_eq_true, decide_eq_true_eq, not_or] at hc
  omega
theorem right8_bd {t : Tk} (h : right8 t = true) (hl : len t.s ≤ 1048576) : TkB t := by
  have h0 : len t.c.s ≤ 1048576 ∧ -1000000 ≤ t.c.e ∧ t.c.e ≤ 1000000 := by
    have no : t.c = noNd → len t.c.s ≤ 1048576 ∧ -1000000 ≤ t.c.e ∧ t.c.e ≤ 1000000 := fun e => by rw [e]; decide
    unfold right8 at h
    split at h
    · simp only [Bool.and_eq_true, decide_eq_true_eq] at h; exact no h.2
    split at h
    · simp only [Bool.and_eq_true, decide_eq_true_eq] at h; exact no h.2
    split at h
    · simp only [Bool.and_eq_true, decide_eq_true_eq] at h; exact no h.2
    split at h
    · simp only [Bool.and_eq_true] at h; exact right1_bd h.2
    · cases h
  exact ⟨hl, h0.1, fun _ => h0.2⟩
theorem given_all {l : List Tk} (h : given8 l = true) : len l ≤ 41 ∧ (∀ t ∈ l, right8 t = true) ∧ ∀ t ∈ l, TkB t := by
  have h2 := given_right h
  unfold given8 at h
  simp only [Bool.and_eq_true, List.all_eq_true, decide_eq_true_eq] at h
  exact ⟨h.1, h2, fun t ht => right8_bd (h2 t ht) (by have := (h.2 t ht).1; omega)⟩
theorem print1_ne (n : Nd) : print1 n ≠ [] := by
  unfold print1
  dsimp only
  split
  · simp
  · rename_i h
    have hs : n.s ≠ [] := by simpa using h
    split
    · simp [hs]
    · split
      · simp
      · simp
theorem oneR_ne {t : Tk} (h : right8 t = true) : oneR t ≠ [] := by
  unfold right8 at h
  unfold oneR
  split
  · simp
  · split
    · have := quoteR_len t.s
      intro e; rw [e, len_nil] at this; omega
    · split
      · exact print1_ne _
      · rename_i h3 h4 h5
        split at h
        · rename_i h1
          simp only [Bool.and_eq_true] at h
          intro e; rw [e] at h; exact absurd h.1 (by decide)
        · split at h
          · simp only [Bool.and_eq_true] at h
            exact word6_ne h.1
          · split at h
            · rename_i h6; simp at h6; omega
            · split at h
              · rename_i h6; simp at h6; omega
              · cases h
theorem fold_ne : ∀ (l : List Tk) (o : Str), o ≠ [] → (∀ t ∈ l, right8 t = true) → l.foldl textStep o = o ++ Lib.joinTail [32] (l.map oneR)
  | [], o, _, _ => by simp [Lib.joinTail]
  | t :: r, o, ho, h => by
    have hk : t.kind ≠ 6 := by have := right_kind (h t (by simp)); simpa using this
    rw [List.foldl_cons, show textStep o t = o ++ [32] ++ oneR t from by unfold textStep; rw [if_pos ⟨hk, ho⟩], fold_ne r _ (by simp) (fun x hx => h x (by simp [hx]))]
    simp [Lib.joinTail, List.append_assoc]
/-- Tokens that can be written are written as the document says. -/
theorem text_eq {l : List Tk} (h : ∀ t ∈ l, right8 t = true) : textP l = textR l := by
  unfold textP textR
  rw [texts_given h]
  cases l with
  | nil => rfl
  | cons t r =>
    rw [List.map_cons, Lib.join_cons, List.foldl_cons]
    have e : textStep [] t = oneR t := by unfold textStep; rw [if_neg (fun x => x.2 rfl)]; rfl
    rw [e, fold_ne r _ (oneR_ne (h t (by simp))) (fun x hx => h x (by simp [hx]))]
theorem text_end (l : List Tk) (e : Tk) (h : e.kind = 6) : textP (l ++ [e]) = textP l := by unfold textP; rw [texts_end l e h]
end Go.Eng
