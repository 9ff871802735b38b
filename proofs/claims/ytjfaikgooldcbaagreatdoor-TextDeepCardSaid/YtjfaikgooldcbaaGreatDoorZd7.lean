/-
  PLAIN LEAN: strings.TrimFunc of figures leaves nothing just where all bytes are figures. No program in it.
-/
import Derived.Test.YtjfaikgooldcbaaGreatDoorZd5
import Derived.Shelf.GgClosure.StringsTrimFunc
set_option linter.unusedVariables false
set_option linter.unusedSimpArgs false
namespace Go.Eng
open Go.RowKit

def figP (x : Nat) : Bool := isFig (x : Int)
theorem figP_iff (x : Nat) : figP x = true ↔ 48 ≤ x ∧ x ≤ 57 := by unfold figP isFig; simp; omega
theorem figP_not (x : Nat) : figP x = false ↔ ¬ (48 ≤ x ∧ x ≤ 57) := by rw [← figP_iff]; simp
theorem dec_fig {s : Str} {i : Nat} (h : i < s.length) (hf : figP (s[i]).toNat = true) : Utf8.decode ⟨⟨s⟩⟩ i = ((s[i]).toNat, 1) := by
  have := decode_ascii ⟨⟨s⟩⟩ i h (by have := (figP_iff _).1 hf; show (s[i]).toNat < 128; omega)
  exact this
theorem dec_not {s : Str} {i : Nat} (h : i < s.length) (hf : figP (s[i]).toNat = false) : figP (Utf8.decode ⟨⟨s⟩⟩ i).1 = false := by
  rcases Nat.lt_or_ge (s[i]).toNat 128 with hl | hl
  · have := decode_ascii ⟨⟨s⟩⟩ i h hl
    rw [this]; exact hf
  · have := decode_high ⟨⟨s⟩⟩ i h hl
    rw [figP_not]; omega
theorem idx_find (s : Str) : ∀ (f pos : Nat), s.length ≤ pos + f → (∀ (j : Nat) (h : j < s.length), pos ≤ j → figP (s[j]).toNat = true) → Lib.idxFuncFrom figP false ⟨⟨s⟩⟩ f pos = -1
  | 0, _, _, _ => rfl
  | f + 1, pos, hl, ha => by
    unfold Lib.idxFuncFrom
    by_cases h : pos < s.length
    · rw [if_pos (show pos < (ByteArray.mk ⟨s⟩).size from h), dec_fig h (ha pos h (Nat.le_refl _)), if_neg (by rw [ha pos h (Nat.le_refl _)]; simp)]
      exact idx_find s f (pos + 1) (by omega) (fun j hj hp => ha j hj (by omega))
    · rw [if_neg (show ¬ pos < (ByteArray.mk ⟨s⟩).size from h)]
theorem idx_found (s : Str) : ∀ (f pos : Nat), s.length ≤ pos + f → (∃ (j : Nat) (h : j < s.length), pos ≤ j ∧ figP (s[j]).toNat = false) → ∃ (i : Nat) (h : i < s.length), Lib.idxFuncFrom figP false ⟨⟨s⟩⟩ f pos = (i : Int) ∧ figP (s[i]).toNat = false
  | 0, pos, hl, ⟨j, hj, hp, _⟩ => by omega
  | f + 1, pos, hl, ⟨j, hj, hp, hn⟩ => by
    unfold Lib.idxFuncFrom
    have h : pos < s.length := by omega
    rw [if_pos (show pos < (ByteArray.mk ⟨s⟩).size from h)]
    cases hf : figP (s[pos]).toNat with
    | true =>
      rw [dec_fig h hf, if_neg (by rw [hf]; simp)]
      have hne : pos ≠ j := by intro e; subst e; rw [hf] at hn; cases hn
      exact idx_found s f (pos + 1) (by omega) ⟨j, hj, by omega, hn⟩
    | false =>
      rw [if_pos (dec_not h hf)]
      exact ⟨pos, h, rfl, hf⟩
theorem last_found (t : Str) (h0 : ∃ h : 0 < t.length, figP (t[0]).toNat = false) : ∀ (f i : Nat), 0 < i → i ≤ t.length → i ≤ f → 0 ≤ Lib.lastIdxFuncFrom figP false ⟨⟨t⟩⟩ f i
  | 0, i, hi, _, hf => by omega
  | f + 1, i, hi, hl, hf => by
    obtain ⟨hz, hn⟩ := h0
    unfold Lib.lastIdxFuncFrom
    rw [if_pos hi]
    show 0 ≤ if figP (Lib.decodeLastL (t.take i)).1 = false then _ else _
    split
    · omega
    · rename_i hp
      have hp' : figP (Lib.decodeLastL (t.take i)).1 = true := by simpa using hp
      have hb := (figP_iff _).1 hp'
      have hlen : (t.take i).length = i := by rw [List.length_take]; omega
      have hw : Lib.decodeLastL (t.take i) = ((t[i - 1]'(by omega)).toNat, 1) := by
        have hne : ¬ t.take i = [] := by intro e; rw [e] at hlen; simp at hlen; omega
        have hg : (t.take i).getD ((t.take i).length - 1) 0 = t[i - 1]'(by omega) := by
          rw [hlen, List.getD_eq_getElem?_getD, List.getElem?_take, if_pos (by omega)]
          simp [show i - 1 < t.length from by omega]
        unfold Lib.decodeLastL at hb ⊢
        rw [if_neg hne, hg] at hb ⊢
        by_cases hc : (t[i - 1]'(by omega)).toNat < 128
        · rw [if_pos hc]
        · exfalso
          rw [if_neg hc] at hb
          dsimp only at hb
          split at hb
          · rename_i hls
            have hsl : Lib.lastStart (t.take i) < (t.take i).length := by
              rcases Nat.lt_or_ge (Lib.lastStart (t.take i)) (t.take i).length with h | h
              · exact h
              · exfalso
                have e0 : (t.take i).drop (Lib.lastStart (t.take i)) = [] := by rw [List.drop_eq_nil_iff]; exact h
                rw [e0] at hb
                have : (Lib.decodeL []).1 = 0 := by decide
                omega
            -- the rune that begins there is one byte below 128: then it is the last one
            have hd : Utf8.decode ⟨⟨(t.take i).drop (Lib.lastStart (t.take i))⟩⟩ 0 = Lib.decodeL ((t.take i).drop (Lib.lastStart (t.take i))) := rfl
            have hdl : 0 < ((t.take i).drop (Lib.lastStart (t.take i))).length := by rw [List.length_drop]; omega
            have hlow : (((t.take i).drop (Lib.lastStart (t.take i)))[0]).toNat < 128 := by
              rcases Nat.lt_or_ge (((t.take i).drop (Lib.lastStart (t.take i)))[0]).toNat 128 with h | h
              · exact h
              · have := decode_high ⟨⟨(t.take i).drop (Lib.lastStart (t.take i))⟩⟩ 0 hdl h
                rw [hd] at this; omega
            have hda := decode_ascii ⟨⟨(t.take i).drop (Lib.lastStart (t.take i))⟩⟩ 0 hdl hlow
            rw [hd] at hda
            rw [hda] at hls
            have e1 : Lib.lastStart (t.take i) = i - 1 := by rw [hlen] at hls; simp only at hls; omega
            apply hc
            have e2 : ((t.take i).drop (Lib.lastStart (t.take i)))[0] = t[i - 1]'(by omega) := by
              rw [List.getElem_drop, List.getElem_take]; first | done | congr 1 | (congr 1; omega)
            rw [← e2]; exact hlow
          · have : Utf8.runeError = 65533 := rfl
            simp only [this] at hb; omega
      rw [hw]
      by_cases hi1 : i = 1
      · exfalso
        subst hi1
        rw [hw] at hp'
        have : figP (t[0]).toNat = true := hp'
        rw [hn] at this; cases this
      · exact last_found t ⟨hz, hn⟩ f (i - 1) (by omega) (by omega) (by omega)
theorem figs_all {s : Str} : figs s = true ↔ ∀ (j : Nat) (h : j < s.length), figP (s[j]).toNat = true := by
  have key : ∀ (k : Nat) (i : Int), 0 ≤ i → (len s - i).toNat ≤ k → (figsFrom s i = true ↔ ∀ (j : Nat) (h : j < s.length), i ≤ (j : Int) → figP (s[j]).toNat = true) := by
    intro k
    induction k with
    | zero =>
      intro i h0 hk
      rw [figsFrom_end s i (by omega)]
      exact ⟨fun _ j h hj => by unfold len at hk; omega, fun _ => rfl⟩
    | succ k ih =>
      intro i h0 hk
      by_cases hlt : i < len s
      · obtain ⟨hh, he⟩ := byteAt_of_lt h0 hlt
        by_cases hf : isFig (byteAt s i) = true
        · rw [← figsFrom_step s i h0 hlt hf, ih (i + 1) (by omega) (by omega)]
          constructor
          · intro h j hj hij
            by_cases e : (j : Int) = i
            · have e' : j = i.toNat := by omega
              subst e'
              unfold figP; rw [← he]; exact hf
            · exact h j hj (by omega)
          · intro h j hj hij; exact h j hj (by omega)
        · rw [figsFrom_bad s i h0 hlt hf]
          constructor
          · intro h; cases h
          · intro h
            have := h i.toNat hh (by omega)
            unfold figP at this
            rw [← he] at this
            exact absurd this hf
      · rw [figsFrom_end s i hlt]
        exact ⟨fun _ j h hj => by unfold len at hlt; omega, fun _ => rfl⟩
  have := key (len s - 0).toNat 0 (Int.le_refl 0) (Nat.le_refl _)
  unfold figs
  rw [this]
  exact ⟨fun h j hj => h j hj (by omega), fun h j hj _ => h j hj⟩
theorem ext_mk (l : Str) (i j : Nat) : (ByteArray.mk ⟨l⟩).extract i j = ByteArray.mk ⟨(l.drop i).take (j - i)⟩ := by
  have := ByteArray.extract_mk l i j
  rw [this]
theorem trimF_figs (s : Str) : ((Lib.trimF figP ⟨⟨s⟩⟩).data.toList == []) = figs s := by
  rw [Bool.eq_iff_iff, beq_iff_eq]
  have hsz : (ByteArray.mk ⟨s⟩).size = s.length := rfl
  by_cases ha : ∀ (j : Nat) (h : j < s.length), figP (s[j]).toNat = true
  · refine ⟨fun _ => figs_all.2 ha, fun _ => ?_⟩
    have hi : Lib.idxFunc figP false ⟨⟨s⟩⟩ = -1 := idx_find s s.length 0 (by omega) (fun j h _ => ha j h)
    unfold Lib.trimF Lib.trimLeftF
    rw [if_pos hi]
    unfold Lib.trimRightF
    rw [ext_mk []]; simp
  · have hex : ∃ (j : Nat) (h : j < s.length), 0 ≤ j ∧ figP (s[j]).toNat = false := by
      apply Classical.byContradiction
      intro hc
      apply ha
      intro j h
      cases hf : figP (s[j]).toNat with
      | true => rfl
      | false => exact absurd ⟨j, h, Nat.zero_le _, hf⟩ hc
    obtain ⟨i, hi, he, hn⟩ := idx_found s s.length 0 (by omega) hex
    refine ⟨fun h => ?_, fun h => absurd (figs_all.1 h) ha⟩
    exfalso
    have hi' : Lib.idxFunc figP false ⟨⟨s⟩⟩ = (i : Int) := he
    have ht : Lib.trimLeftF figP ⟨⟨s⟩⟩ = ⟨⟨s.drop i⟩⟩ := by
      unfold Lib.trimLeftF
      rw [hi', if_neg (by omega), hsz, Int.toNat_natCast, ext_mk, List.take_of_length_le (by rw [List.length_drop]; omega)]
    unfold Lib.trimF at h
    rw [ht] at h
    have hpos : 0 < (s.drop i).length := by rw [List.length_drop]; omega
    have h0 : ∃ h : 0 < (s.drop i).length, figP ((s.drop i)[0]).toNat = false := ⟨hpos, by rw [List.getElem_drop]; exact hn⟩
    have hlast : 0 ≤ Lib.lastIdxFunc figP false ⟨⟨s.drop i⟩⟩ := last_found (s.drop i) h0 (s.drop i).length (s.drop i).length hpos (Nat.le_refl _) (Nat.le_refl _)
    have hend : 1 ≤ Lib.rightEndF figP ⟨⟨s.drop i⟩⟩ := by
      unfold Lib.rightEndF
      rw [if_pos hlast]
      by_cases hz : (Lib.lastIdxFunc figP false ⟨⟨s.drop i⟩⟩).toNat = 0
      · rw [hz]
        have e : (ByteArray.mk ⟨s.drop i⟩).extract 0 (ByteArray.mk ⟨s.drop i⟩).size = ⟨⟨s.drop i⟩⟩ := by
          rw [ext_mk]
          have : List.take ((s.drop i).length - 0) (List.drop 0 (s.drop i)) = s.drop i := by rw [List.drop_zero, Nat.sub_zero, List.take_length]
          exact congrArg (fun l => (⟨⟨l⟩⟩ : ByteArray)) this
        rw [e]
        unfold Lib.decodeGoB
        have hs2 : (ByteArray.mk ⟨s.drop i⟩).size = (s.drop i).length := rfl
        rw [if_neg (by rw [hs2]; omega)]
        have := Lib.decode_width_pos ⟨⟨s.drop i⟩⟩ 0 (by rw [hs2]; exact hpos)
        omega
      · omega
    unfold Lib.trimRightF at h
    rw [ext_mk] at h
    have h2 : (List.take (Lib.rightEndF figP ⟨⟨s.drop i⟩⟩ - 0) (List.drop 0 (s.drop i))) = [] := h
    rw [List.drop_zero, Nat.sub_zero, List.take_eq_nil_iff] at h2
    rcases h2 with h2 | h2
    · omega
    · rw [h2] at hpos; simp at hpos
end Go.Eng
