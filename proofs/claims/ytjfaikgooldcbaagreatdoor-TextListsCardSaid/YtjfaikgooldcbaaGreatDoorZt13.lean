/-
  PLAIN LEAN: strings.TrimFunc of figures leaves nothing just where all bytes are figures. No program in it.
  A right number, opened. Plain: no program in it.
  RIGHT VALUES ARE GOOD TREES. No program in it.
  How long texts of numbers and strings are. Plain: no program in it.
  How long a value's text is. No program in it.
  A NUMBER'S TEXT IS READ AS IT; what any text is read as is a right number; a string's text is read as it. Plain: no program in it.
  A VALUE'S TEXT IS READ AS IT: plain. No program in it.
  WHAT IS READ IS RIGHT, and not too deep: plain. No program in it.
  The smallest that is left, one behind the other: the names in order. No program in it.
-/
import Derived.Test.YtjfaikgooldcbaaGreatDoorZt9
import Derived.Test.YtjfaikgooldcbaaGreatDoorZt10
import Derived.Shelf.GgClosure.StringsTrimFunc
import Derived.Test.YtjfaikgooldcbaaGreatDoorZt12
import Derived.Lib.SlTrimSet
import Derived.Test.YtjfaikgooldcbaaGreatDoorZt11
import Derived.Sort.Walk0
set_option linter.unusedVariables false
set_option linter.unusedSimpArgs false
namespace Go.Eng
open Go.RowKit

def figP (x : Nat) : Bool := isFig (x : Int)
theorem figP_iff (x : Nat) : figP x = true ↔ 48 ≤ x ∧ x ≤ 57 := by unfold figP isFig; simp; omega
theorem figP_not (x : Nat) : figP x = false ↔ ¬ (48 ≤ x ∧ x ≤ 57) := by rw [← figP_iff]; simp
theorem dec_fig {s : Str} {i : Nat} (h : i < s.length) (hf : figP (s[i]).toNat = true) : Utf8.decode ⟨⟨s⟩⟩ i = ((s[i]).toNat, 1) := by
  have := decode_ascii ⟨⟨s⟩⟩ i h (by have := (figP_iff _).1 hf; show (s[i]).toNat < 128; omega)
  exact this
theorem dec_not {s : Str} {i : Nat} (h : i < s.length) (hf : figP (s[i]).toNat = false) : figP (Utf8.decode ⟨⟨s⟩⟩ i).1 = false := by
  rcases Nat.lt_or_ge (s[i]).toNat 128 with hl | hl
  · have := decode_ascii ⟨⟨s⟩⟩ i h hl
    rw [this]; exact hf
  · have := decode_high ⟨⟨s⟩⟩ i h hl
    rw [figP_not]; omega
theorem idx_find (s : Str) : ∀ (f pos : Nat), s.length ≤ pos + f → (∀ (j : Nat) (h : j < s.length), pos ≤ j → figP (s[j]).toNat = true) → Lib.idxFuncFrom figP false ⟨⟨s⟩⟩ f pos = -1
  | 0, _, _, _ => rfl
  | f + 1, pos, hl, ha => by
    unfold Lib.idxFuncFrom
    by_cases h : pos < s.length
    · rw [if_pos (show pos < (ByteArray.mk ⟨s⟩).size from h), dec_fig h (ha pos h (Nat.le_refl _)), if_neg (by rw [ha pos h (Nat.le_refl _)]; simp)]
      exact idx_find s f (pos + 1) (by omega) (fun j hj hp => ha j hj (by omega))
    · rw [if_neg (show ¬ pos < (ByteArray.mk ⟨s⟩).size from h)]
theorem idx_found (s : Str) : ∀ (f pos : Nat), s.length ≤ pos + f → (∃ (j : Nat) (h : j < s.length), pos ≤ j ∧ figP (s[j]).toNat = false) → ∃ (i : Nat) (h : i < s.length), Lib.idxFuncFrom figP false ⟨⟨s⟩⟩ f pos = (i : Int) ∧ figP (s[i]).toNat = false
  | 0, pos, hl, ⟨j, hj, hp, _⟩ => by omega
  | f + 1, pos, hl, ⟨j, hj, hp, hn⟩ => by
    unfold Lib.idxFuncFrom
    have h : pos < s.length := by omega
    rw [if_pos (show pos < (ByteArray.mk ⟨s⟩).size from h)]
    cases hf : figP (s[pos]).toNat with
    | true =>
      rw [dec_fig h hf, if_neg (by rw [hf]; simp)]
      have hne : pos ≠ j := by intro e; subst e; rw [hf] at hn; cases hn
      exact idx_found s f (pos + 1) (by omega) ⟨j, hj, by omega, hn⟩
    | false =>
      rw [if_pos (dec_not h hf)]
      exact ⟨pos, h, rfl, hf⟩
theorem last_found (t : Str) (h0 : ∃ h : 0 < t.length, figP (t[0]).toNat = false) : ∀ (f i : Nat), 0 < i → i ≤ t.length → i ≤ f → 0 ≤ Lib.lastIdxFuncFrom figP false ⟨⟨t⟩⟩ f i
  | 0, i, hi, _, hf => by omega
  | f + 1, i, hi, hl, hf => by
    obtain ⟨hz, hn⟩ := h0
    unfold Lib.lastIdxFuncFrom
    rw [if_pos hi]
    show 0 ≤ if figP (Lib.decodeLastL (t.take i)).1 = false then _ else _
    split
    · omega
    · rename_i hp
      have hp' : figP (Lib.decodeLastL (t.take i)).1 = true := by simpa using hp
      have hb := (figP_iff _).1 hp'
      have hlen : (t.take i).length = i := by rw [List.length_take]; omega
      have hw : Lib.decodeLastL (t.take i) = ((t[i - 1]'(by omega)).toNat, 1) := by
        have hne : ¬ t.take i = [] := by intro e; rw [e] at hlen; simp at hlen; omega
        have hg : (t.take i).getD ((t.take i).length - 1) 0 = t[i - 1]'(by omega) := by
          rw [hlen, List.getD_eq_getElem?_getD, List.getElem?_take, if_pos (by omega)]
          simp [show i - 1 < t.length from by omega]
        unfold Lib.decodeLastL at hb ⊢
        rw [if_neg hne, hg] at hb ⊢
        by_cases hc : (t[i - 1]'(by omega)).toNat < 128
        · rw [if_pos hc]
        · exfalso
          rw [if_neg hc] at hb
          dsimp only at hb
          split at hb
          · rename_i hls
            have hsl : Lib.lastStart (t.take i) < (t.take i).length := by
              rcases Nat.lt_or_ge (Lib.lastStart (t.take i)) (t.take i).length with h | h
              · exact h
              · exfalso
                have e0 : (t.take i).drop (Lib.lastStart (t.take i)) = [] := by rw [List.drop_eq_nil_iff]; exact h
                rw [e0] at hb
                have : (Lib.decodeL []).1 = 0 := by decide
                omega
            -- the rune that begins there is one byte below 128: then it is the last one
            have hd : Utf8.decode ⟨⟨(t.take i).drop (Lib.lastStart (t.take i))⟩⟩ 0 = Lib.decodeL ((t.take i).drop (Lib.lastStart (t.take i))) := rfl
            have hdl : 0 < ((t.take i).drop (Lib.lastStart (t.take i))).length := by rw [List.length_drop]; omega
            have hlow : (((t.take i).drop (Lib.lastStart (t.take i)))[0]).toNat < 128 := by
              rcases Nat.lt_or_ge (((t.take i).drop (Lib.lastStart (t.take i)))[0]).toNat 128 with h | h
              · exact h
              · have := decode_high ⟨⟨(t.take i).drop (Lib.lastStart (t.take i))⟩⟩ 0 hdl h
                rw [hd] at this; omega
            have hda := decode_ascii ⟨⟨(t.take i).drop (Lib.lastStart (t.take i))⟩⟩ 0 hdl hlow
            rw [hd] at hda
            rw [hda] at hls
            have e1 : Lib.lastStart (t.take i) = i - 1 := by rw [hlen] at hls; simp only at hls; omega
            apply hc
            have e2 : ((t.take i).drop (Lib.lastStart (t.take i)))[0] = t[i - 1]'(by omega) := by
              rw [List.getElem_drop, List.getElem_take]; first | done | congr 1 | (congr 1; omega)
            rw [← e2]; exact hlow
          · have : Utf8.runeError = 65533 := rfl
            simp only [this] at hb; omega
      rw [hw]
      by_cases hi1 : i = 1
      · exfalso
        subst hi1
        rw [hw] at hp'
        have : figP (t[0]).toNat = true := hp'
        rw [hn] at this; cases this
      · exact last_found t ⟨hz, hn⟩ f (i - 1) (by omega) (by omega) (by omega)
theorem figs_all {s : Str} : figs s = true ↔ ∀ (j : Nat) (h : j < s.length), figP (s[j]).toNat = true := by
  have key : ∀ (k : Nat) (i : Int), 0 ≤ i → (len s - i).toNat ≤ k → (figsFrom s i = true ↔ ∀ (j : Nat) (h : j < s.length), i ≤ (j : Int) → figP (s[j]).toNat = true) := by
    intro k
    induction k with
    | zero =>
      intro i h0 hk
      rw [figsFrom_end s i (by omega)]
      exact ⟨fun _ j h hj => by unfold len at hk; omega, fun _ => rfl⟩
    | succ k ih =>
      intro i h0 hk
      by_cases hlt : i < len s
      · obtain ⟨hh, he⟩ := byteAt_of_lt h0 hlt
        by_cases hf : isFig (byteAt s i) = true
        · rw [← figsFrom_step s i h0 hlt hf, ih (i + 1) (by omega) (by omega)]
          constructor
          · intro h j hj hij
            by_cases e : (j : Int) = i
            · have e' : j = i.toNat := by omega
              subst e'
              unfold figP; rw [← he]; exact hf
            · exact h j hj (by omega)
          · intro h j hj hij; exact h j hj (by omega)
        · rw [figsFrom_bad s i h0 hlt hf]
          constructor
          · intro h; cases h
          · intro h
            have := h i.toNat hh (by omega)
            unfold figP at this
            rw [← he] at this
            exact absurd this hf
      · rw [figsFrom_end s i hlt]
        exact ⟨fun _ j h hj => by unfold len at hlt; omega, fun _ => rfl⟩
  have := key (len s - 0).toNat 0 (Int.le_refl 0) (Nat.le_refl _)
  unfold figs
  rw [this]
  exact ⟨fun h j hj => h j hj (by omega), fun h j hj _ => h j hj⟩
theorem ext_mk (l : Str) (i j : Nat) : (ByteArray.mk ⟨l⟩).extract i j = ByteArray.mk ⟨(l.drop i).take (j - i)⟩ := by
  have := ByteArray.extract_mk l i j
  rw [this]
theorem trimF_figs (s : Str) : ((Lib.trimF figP ⟨⟨s⟩⟩).data.toList == []) = figs s := by
  rw [Bool.eq_iff_iff, beq_iff_eq]
  have hsz : (ByteArray.mk ⟨s⟩).size = s.length := rfl
  by_cases ha : ∀ (j : Nat) (h : j < s.length), figP (s[j]).toNat = true
  · refine ⟨fun _ => figs_all.2 ha, fun _ => ?_⟩
    have hi : Lib.idxFunc figP false ⟨⟨s⟩⟩ = -1 := idx_find s s.length 0 (by omega) (fun j h _ => ha j h)
    unfold Lib.trimF Lib.trimLeftF
    rw [if_pos hi]
    unfold Lib.trimRightF
    rw [ext_mk []]; simp
  · have hex : ∃ (j : Nat) (h : j < s.length), 0 ≤ j ∧ figP (s[j]).toNat = false := by
      apply Classical.byContradiction
      intro hc
      apply ha
      intro j h
      cases hf : figP (s[j]).toNat with
      | true => rfl
      | false => exact absurd ⟨j, h, Nat.zero_le _, hf⟩ hc
    obtain ⟨i, hi, he, hn⟩ := idx_found s s.length 0 (by omega) hex
    refine ⟨fun h => ?_, fun h => absurd (figs_all.1 h) ha⟩
    exfalso
    have hi' : Lib.idxFunc figP false ⟨⟨s⟩⟩ = (i : Int) := he
    have ht : Lib.trimLeftF figP ⟨⟨s⟩⟩ = ⟨⟨s.drop i⟩⟩ := by
      unfold Lib.trimLeftF
      rw [hi', if_neg (by omega), hsz, Int.toNat_natCast, ext_mk, List.take_of_length_le (by rw [List.length_drop]; omega)]
    unfold Lib.trimF at h
    rw [ht] at h
    have hpos : 0 < (s.drop i).length := by rw [List.length_drop]; omega
    have h0 : ∃ h : 0 < (s.drop i).length, figP ((s.drop i)[0]).toNat = false := ⟨hpos, by rw [List.getElem_drop]; exact hn⟩
    have hlast : 0 ≤ Lib.lastIdxFunc figP false ⟨⟨s.drop i⟩⟩ := last_found (s.drop i) h0 (s.drop i).length (s.drop i).length hpos (Nat.le_refl _) (Nat.le_refl _)
    have hend : 1 ≤ Lib.rightEndF figP ⟨⟨s.drop i⟩⟩ := by
      unfold Lib.rightEndF
      rw [if_pos hlast]
      by_cases hz : (Lib.lastIdxFunc figP false ⟨⟨s.drop i⟩⟩).toNat = 0
      · rw [hz]
        have e : (ByteArray.mk ⟨s.drop i⟩).extract 0 (ByteArray.mk ⟨s.drop i⟩).size = ⟨⟨s.drop i⟩⟩ := by
          rw [ext_mk]
          have : List.take ((s.drop i).length - 0) (List.drop 0 (s.drop i)) = s.drop i := by rw [List.drop_zero, Nat.sub_zero, List.take_length]
          exact congrArg (fun l => (⟨⟨l⟩⟩ : ByteArray)) this
        rw [e]
        unfold Lib.decodeGoB
        have hs2 : (ByteArray.mk ⟨s.drop i⟩).size = (s.drop i).length := rfl
        rw [if_neg (by rw [hs2]; omega)]
        have := Lib.decode_width_pos ⟨⟨s.drop i⟩⟩ 0 (by rw [hs2]; exact hpos)
        omega
      · omega
    unfold Lib.trimRightF at h
    rw [ext_mk] at h
    have h2 : (List.take (Lib.rightEndF figP ⟨⟨s.drop i⟩⟩ - 0) (List.drop 0 (s.drop i))) = [] := h
    rw [List.drop_zero, Nat.sub_zero, List.take_eq_nil_iff] at h2
    rcases h2 with h2 | h2
    · omega
    · rw [h2] at hpos; simp at hpos
end Go.Eng
namespace Go.Eng
open Go.RowKit

def AllF (l : Str) : Prop := ∀ b ∈ l, isFigB b = true
theorem figs_iff {s : Str} : figs s = true ↔ AllF s := by
  rw [figs_all]
  constructor
  · intro h b hb
    obtain ⟨j, hj, e⟩ := List.getElem_of_mem hb
    have := h j hj
    rw [e] at this; exact this
  · intro h j hj; exact h _ (List.getElem_mem hj)
theorem right_open {n : Nd} (h : right1 n = true) : n = ⟨3, 0, [], n.s, n.neg, n.e⟩ ∧ AllF n.s ∧ len n.s ≤ 100 ∧ -1000 ≤ n.e ∧ n.e ≤ 1000 ∧ len n.s + n.e ≤ 1000 ∧ ((n.s = [] ∧ n.neg = false ∧ n.e = 0) ∨ (n.s ≠ [] ∧ byteAt n.s 0 ≠ 48 ∧ byteAt n.s (len n.s - 1) ≠ 48)) := by
  obtain ⟨kind, many, name, s, neg, e⟩ := n
  unfold right1 at h
  dsimp only at h ⊢
  split at h
  · cases h
  rename_i hc
  simp only [Bool.or_eq_true, decide_eq_true_eq, bne_iff_ne, Bool.not_eq_true', beq_eq_false_iff_ne, not_or, ne_eq, Classical.not_not] at hc
  obtain ⟨⟨⟨⟨⟨⟨⟨c1, c2⟩, c3⟩, c4⟩, c5⟩, c6⟩, c7⟩, c8⟩ := hc
  subst c1; subst c2; subst c3
  refine ⟨rfl, figs_iff.1 (by simpa using c4), by omega, by omega, by omega, by omega, ?_⟩
  split at h
  · rename_i hs
    simp only [Bool.and_eq_true, Bool.not_eq_true', beq_iff_eq] at h hs
    exact .inl ⟨hs, h.1, h.2⟩
  · rename_i hs
    simp only [Bool.and_eq_true, bne_iff_ne, beq_iff_eq] at h hs
    exact .inr ⟨hs, h.1, h.2⟩
end Go.Eng
namespace Go.Eng
open Go.RowKit

def nameOK (k : Int) (x : Str) : Prop := (k = 5 → x = []) ∧ utf x = true
/-- The parts' names: none in a list; valid, and rising in an object. -/
def risL (k : Int) : List Tr → Prop
  | [] => True
  | t :: ts => nameOK k t.node.name ∧ (∀ u us, ts = u :: us → k = 6 → Op.bytesLess t.node.name u.node.name = true) ∧ risL k ts
mutual
def Tr.good : Tr → Prop
  | .mk n ps => plainB n = true ∧ n.many = len ps ∧ risL n.kind ps ∧ goodL ps
def goodL : List Tr → Prop
  | [] => True
  | t :: ts => t.good ∧ goodL ts
end
/-- Texts no longer than so. -/
def shortV (q : Int) (v : Vl) : Prop := ∀ n ∈ v, len n.s ≤ q ∧ len n.name ≤ q
end Go.Eng
namespace Go.Eng
open Go.RowKit

end Go.Eng
namespace Go.Eng
open Go.RowKit

theorem shortV.mono {a b : Int} (h : a ≤ b) {v : Vl} (hs : shortV a v) : shortV b v := fun n hn => by have := hs n hn; omega
theorem Tr.named_good {x : Str} {t : Tr} (h : t.good) : (t.named x).good := by
  obtain ⟨n, ps⟩ := t
  rw [Tr.good] at h
  rw [Tr.named, Tr.good]
  exact h
end Go.Eng
namespace Go.Eng
open Go.RowKit

theorem from_zero {α : Type} (s : List α) : from' s 0 = s := rfl
theorem str_ext {a b : Str} (hl : len a = len b) (h : ∀ j : Int, 0 ≤ j → j < len a → byteAt a j = byteAt b j) : a = b := by
  unfold len at hl
  refine List.ext_getElem (by omega) fun i h1 h2 => ?_
  have := h (i : Int) (by omega) (by unfold len; omega)
  simp only [byteAt, Int.toNat_natCast, List.getD_eq_getElem?_getD, List.getElem?_eq_getElem h1, List.getElem?_eq_getElem h2, Option.getD_some] at this
  exact UInt8.toNat_inj.1 (by omega)
theorem sub_agr {s s' : Str} {i i' k : Int} (h0 : 0 ≤ i) (h0' : 0 ≤ i') (hk : 0 ≤ k) (h1 : i + k ≤ len s) (h2 : i' + k ≤ len s') (h : ∀ j, 0 ≤ j → j < k → byteAt s' (i' + j) = byteAt s (i + j)) : Eng.sub s' i' (i' + k) = Eng.sub s i (i + k) := by
  have l1 := sub_len (s := s) (i := i) (j := i + k) h0 (by omega) h1
  have l2 := sub_len (s := s') (i := i') (j := i' + k) h0' (by omega) h2
  refine str_ext (by omega) fun j a b => ?_
  rw [byteAt_sub h0' a (by omega) h2, byteAt_sub h0 a (by omega) h1]
  exact h j a (by omega)

theorem num_agr {s s' : Str} (hl : 6 ≤ len s') (h : ∀ j, 0 ≤ j → j < 6 → byteAt s' j = byteAt s j) (h0 : 0 ≤ numP s) : numP s' = numP s := by
  by_cases hs : len s < 6 ∨ ¬ byteAt s 0 = 92 ∨ ¬ byteAt s (0 + 1) = 117
  · have := numP_not (s := s) (i := 0) (by omega) (by omega)
    rw [from_zero] at this; omega
  · have e1 := numP_at (s := s) (i := 0) (by omega) (by omega) (by omega) (by omega)
    have e2 := numP_at (s := s') (i := 0) (by omega) (by omega) (by rw [h 0 (by omega) (by omega)]; omega) (by rw [h (0 + 1) (by omega) (by omega)]; omega)
    rw [from_zero] at e1 e2
    have e3 : Eng.sub s' (0 + 2) (0 + 6) = Eng.sub s (0 + 2) (0 + 6) := sub_agr (k := 4) (by omega) (by omega) (by omega) (by omega) (by omega) (fun j a b => h _ (by omega) (by omega))
    rw [e1, e2, e3]
theorem sub_from_split {s : Str} {n : Int} (h0 : 0 ≤ n) (h1 : n ≤ len s) : s = Eng.sub s 0 n ++ from' s n ∧ len (Eng.sub s 0 n) = n := by
  refine ⟨?_, by rw [sub_len (by omega) h0 h1]; omega⟩
  have := from_split s 0 n (by omega) h0
  rw [from_zero] at this; exact this
theorem esc_agr {s s' : Str} (h0 : (escP s).2 ≠ 0) (hl : (escP s).2 ≤ len s') (h : ∀ j, 0 ≤ j → j < (escP s).2 → byteAt s' j = byteAt s j) : escP s' = escP s := by
  generalize hk : (escP s).2 = k at *
  unfold escP at hk ⊢
  by_cases c1 : len s < 2
  · rw [if_pos c1] at hk; exact absurd hk.symm h0
  rw [if_neg c1] at hk ⊢
  by_cases c2 : shIs (byteAt s 1) = true
  · rw [if_pos c2] at hk ⊢
    have hk' : k = 2 := hk.symm
    rw [if_neg (by omega), h 1 (by omega) (by omega), if_pos c2]
  rw [if_neg c2] at hk ⊢
  by_cases c3 : numP s < 0 ∨ (56320 ≤ numP s ∧ numP s < 57344)
  · rw [if_pos c3] at hk; exact absurd hk.symm h0
  rw [if_neg c3] at hk ⊢
  by_cases c4 : numP s < 55296 ∨ 57344 ≤ numP s
  · rw [if_pos c4] at hk ⊢
    have hk' : k = 6 := hk.symm
    have e := num_agr (s := s) (s' := s') (by omega) (fun j a b => h j a (by omega)) (by omega)
    rw [if_neg (by omega), h 1 (by omega) (by omega), if_neg c2, e, if_neg c3, if_pos c4]
  rw [if_neg c4] at hk ⊢
  by_cases c5 : numP (from' s 6) < 56320 ∨ 57344 ≤ numP (from' s 6)
  · rw [if_pos c5] at hk; exact absurd hk.symm h0
  rw [if_neg c5] at hk ⊢
  have hk' : k = 12 := hk.symm
  have e := num_agr (s := s) (s' := s') (by omega) (fun j a b => h j a (by omega)) (by omega)
  have e2 := num_agr (s := from' s 6) (s' := from' s' 6) (by rw [from_len s' 6 (by omega) (by omega)]; omega) (fun j a b => by rw [byteAt_from _ _ _ (by omega) a, byteAt_from _ _ _ (by omega) a]; exact h _ (by omega) (by omega)) (by omega)
  rw [if_neg (by omega), h 1 (by omega) (by omega), if_neg c2, e, if_neg c3, if_neg c4, e2, if_neg c5]

theorem byteAt_cons0 (a : UInt8) (l : Str) : byteAt (a :: l) 0 = (a.toNat : Int) := rfl
theorem from_app {u v : Str} : from' (u ++ v) (len u) = v := by unfold from' len; simp
theorem ne_len {α : Type} {l : List α} : l ≠ [] ↔ 0 < len l := ⟨fun h => len_pos h, fun h e => by rw [e, len_nil] at h; omega⟩
theorem AllF.app {a b : Str} (h : AllF a) (k : AllF b) : AllF (a ++ b) := fun x hx => by
  rcases List.mem_append.1 hx with hx | hx
  · exact h x hx
  · exact k x hx
theorem zeros_mem {k : Int} : ∀ b ∈ zeros k, b = 48 := fun b hb => (List.mem_replicate.1 hb).2
theorem AllF.zeros (k : Int) : AllF (zeros k) := fun b hb => by rw [zeros_mem b hb]; rfl
theorem from_next {s g r : Str} {i : Int} (h0 : 0 ≤ i) (h : from' s i = g ++ r) : from' s (i + len g) = r := by
  rw [← from_from s i (len g) h0 (len_nonneg _), h, from_app]
theorem len_of_from {s g : Str} {i : Int} (h0 : 0 ≤ i) (h : from' s i = g) (hg : g ≠ []) : len s = i + len g := by
  have hp := ne_len.1 hg
  have := from_len' s i h0
  rw [h] at this
  split at this <;> omega
theorem byte_of_from {s q : Str} {b : UInt8} {i : Int} (h0 : 0 ≤ i) (h : from' s i = b :: q) : i < len s ∧ byteAt s i = (b.toNat : Int) := by
  have hl := len_of_from h0 h (by simp)
  rw [len_cons] at hl
  have hq := len_nonneg q
  refine ⟨by omega, ?_⟩
  have := byteAt_from s i 0 h0 (Int.le_refl 0)
  rw [h, Int.add_zero] at this
  rw [← this]; rfl
def sgn (neg : Bool) : Str := if neg then [45] else []
/-! ### What a text is read as -/
theorem mk_right {neg : Bool} {s : Str} {e : Int} (h : (mk1 neg s e).2 = 0) : right1 (mk1 neg s e).1 = true := by
  unfold mk1 at h ⊢
  by_cases c1 : figs s = true
  · rw [if_pos c1] at h ⊢
    by_cases c2 : (dropZ s == []) = true
    · rw [if_pos c2]; decide +kernel
    rw [if_neg c2] at h ⊢
    split at h
    · cases h
    rename_i c3
    rw [if_neg c3]
    split at h
    · cases h
    rename_i c4
    rw [if_neg c4]
    simp only [Bool.or_eq_true, decide_eq_true_eq] at c4
    have c2' : ¬ dropZ s = [] := by simpa using c2
    have hp := trimZ_pos s c2'
    have htn : trimZ (dropZ s) ≠ [] := ne_len.2 hp
    have hpre : ∃ r, trimZ (dropZ s) ++ r = dropZ s := by
      unfold trimZ Lib.trimRightS
      have := List.dropWhile_suffix (([48] : Str).contains ·) (l := (dropZ s).reverse)
      obtain ⟨r, hr⟩ := this
      refine ⟨r.reverse, ?_⟩
      rw [← List.reverse_append, hr, List.reverse_reverse]
    obtain ⟨r, hr⟩ := hpre
    have hF : AllF (trimZ (dropZ s)) := fun b hb => (figs_drop (figs_iff.1 c1)) b (by rw [← hr]; simp [hb])
    have hfirst : byteAt (trimZ (dropZ s)) 0 ≠ 48 := by
      rw [← byteAt_l (v := r) (Int.le_refl 0) hp, hr]
      cases hd : dropZ s with
      | nil => exact absurd hd c2'
      | cons b l =>
        have := dropZ_first hd
        intro e; rw [byteAt_cons0] at e; rw [u8_eq48.2 e] at this; cases this
    have hlast : byteAt (trimZ (dropZ s)) (len (trimZ (dropZ s)) - 1) ≠ 48 := by
      obtain ⟨b, e1, e2⟩ := last_split hp
      rw [← e2]
      intro e3
      have hb : ([48] : Str).contains b = true := u8_eq48.2 e3
      have : trimZ (dropZ s) = ((dropZ s).reverse.dropWhile (([48] : Str).contains ·)).reverse := rfl
      rw [this] at e1
      have h2 := congrArg List.reverse e1
      rw [List.reverse_reverse, List.reverse_append, List.reverse_cons, List.reverse_nil, List.nil_append, List.singleton_append] at h2
      have := dropZ_first (s := (dropZ s).reverse) (b := b) (l := (Eng.sub (trimZ (dropZ s)) 0 (len (trimZ (dropZ s)) - 1)).reverse) h2
      rw [hb] at this; cases this
    unfold right1
    dsimp only
    rw [if_neg (by
      simp only [Bool.or_eq_true, decide_eq_true_eq, bne_iff_ne, Bool.not_eq_true', beq_eq_false_iff_ne, figs_iff.2 hF]
      simp only [not_or]
      refine ⟨⟨⟨⟨⟨⟨⟨by simp, by simp⟩, by simp⟩, by simp⟩, by omega⟩, by omega⟩, by omega⟩, by omega⟩), if_neg (by simpa using htn)]
    simp [hfirst, hlast]
  · rw [if_neg c1] at h; exact absurd h (by decide)
theorem mk_err {neg : Bool} {s : Str} {e : Int} (h : AllF s) : (mk1 neg s e).2 = 0 ∨ (mk1 neg s e).2 = 2 := by
  unfold mk1
  rw [if_pos (figs_iff.2 h)]
  split
  · exact .inl rfl
  · split
    · exact .inr rfl
    · split
      · exact .inr rfl
      · exact .inl rfl
def ReadOk (r : Nd × Int × Int) : Prop := (r.2.2 = 0 → right1 r.1 = true) ∧ (r.2.2 = 0 ∨ r.2.2 = 1 ∨ r.2.2 = 2)
theorem fin_ok {neg : Bool} {fg : Str} {x : Int} {pw : Str} {side : Int} (h : AllF fg) : ReadOk (fin1 neg fg x pw side) := by
  unfold fin1
  split
  · exact ⟨fun e => absurd e (by decide), .inr (.inr rfl)⟩
  · refine ⟨fun e => mk_right e, ?_⟩
    rcases mk_err (neg := neg) (e := x + side * decVal (dropZ pw)) h with e | e
    · exact .inl e
    · exact .inr (.inr e)
theorem bad_ok (n : Nd) (p : Int) : ReadOk (n, p, 1) := ⟨fun e => absurd e (show ¬ (1 : Int) = 0 by decide), .inr (.inl rfl)⟩
theorem rest_ok {s fg : Str} {neg : Bool} {x b : Int} (h : AllF fg) : ReadOk (rest1 s neg fg x b) := by
  unfold rest1
  split
  · unfold exp1
    dsimp only
    repeat' split
    all_goals first | exact bad_ok _ _ | exact fin_ok h
  · split
    · exact bad_ok _ _
    · exact fin_ok h
theorem read_ok (s : Str) : ReadOk (read1 s) := by
  have h0 := isTo_bd s [45] 0 (len_nonneg s)
  have hr := runTo_bd s (isTo s [45] 0) (by omega) h0.2
  have h1 := isTo_bd s [46] (runTo s (isTo s [45] 0)) hr.2
  unfold read1
  dsimp only
  have hF : AllF (Eng.sub s (isTo s [45] 0) (runTo s (isTo s [45] 0))) := figs_run h0.1
  split
  · exact bad_ok _ _
  · split
    · exact bad_ok _ _
    · split
      · split
        · exact bad_ok _ _
        · exact rest_ok (hF.app (figs_run (by omega)))
      · exact rest_ok hF
theorem qOne_tab : ∀ n : Fin 128, (qOne (n.val : Int) = [UInt8.ofNat n.val] ∧ 32 ≤ n.val ∧ n.val ≠ 34 ∧ n.val ≠ 92) ∨
    (byteAt (qOne (n.val : Int)) 0 = 92 ∧ escP (qOne (n.val : Int)) = ((n.val : Int), len (qOne (n.val : Int))) ∧ len (qOne (n.val : Int)) ≠ 0) := by decide +kernel
theorem unq_from {s T r : Str} : ∀ (f : Nat) (p i : Int) (acc : List Int), 0 ≤ p → p ≤ len s → 0 ≤ i → utfFrom s p = true → from' T i = qFrom s p ++ 34 :: r → (len T - i).toNat ≤ f →
    unqGo f T i acc = (toStr acc ++ from' s p, i + len (qFrom s p) + 1, 0)
  | f, p, i, acc, h0, h1, hi, hu, hT, hf => by
    have hne : from' T i ≠ [] := by rw [hT]; simp
    have hlT := len_of_from hi rfl hne
    have hpos := ne_len.1 hne
    have hlt : i < len T := by omega
    rw [unqGo_eq hf hlt, runeAt_from T i hi, runeLen_from T i hi]
    by_cases hp : p < len s
    · have hb := rune_bd s p
      have hle := rune_le s p hp
      rcases rune_dec h0 hp with ⟨h2, _⟩ | ⟨h2, h3, _, h5, h6, h7⟩
      · rw [utfFrom_bad s p h0 hp h2] at hu; cases hu
      rw [← utfFrom_step s p h0 hp (by omega)] at hu
      rw [qFrom_step h0 hp] at hT ⊢
      rw [h3] at hT ⊢
      rw [List.append_assoc] at hT
      have hnext := from_next hi hT
      have hlq := len_nonneg (qFrom s (p + rune s p) ++ 34 :: r)
      have hlT2 : len T = i + (len (qOne (runeAt s p)) + len (qFrom s (p + rune s p) ++ 34 :: r)) := by rw [hlT, hT, len_app]
      have hby : ∀ j, 0 ≤ j → j < len (qOne (runeAt s p)) → byteAt T (i + j) = byteAt (qOne (runeAt s p)) j := fun j a b => by
        rw [← byteAt_from T i j hi a, hT, byteAt_l a b]
      have hback : toStr acc ++ from' s p = toStr (acc ++ Lib.encodeRuneZ (runeAt s p)) ++ from' s (p + rune s p) := by
        rw [toStr_app, h5, from_split s p (p + rune s p) h0 (by omega), List.append_assoc]
      have ih := fun (g : Nat) (hg : (len T - (i + len (qOne (runeAt s p)))).toNat ≤ g) => unq_from (s := s) (T := T) (r := r) g (p + rune s p) (i + len (qOne (runeAt s p))) (acc ++ Lib.encodeRuneZ (runeAt s p)) (by omega) hle (by have := len_nonneg (qOne (runeAt s p)); omega) hu hnext hg
      rw [hback, len_app, show i + (len (qOne (runeAt s p)) + len (qFrom s (p + rune s p))) + 1 = i + len (qOne (runeAt s p)) + len (qFrom s (p + rune s p)) + 1 from by omega]
      by_cases hc : byteAt s p < 128
      · obtain ⟨h8, h9⟩ := h6 hc
        have hc0 := byteAt_bd s p
        have tab := qOne_tab ⟨(byteAt s p).toNat, by omega⟩
        dsimp only at tab
        rw [show (((byteAt s p).toNat : Nat) : Int) = byteAt s p from by omega] at tab
        rw [h9] at hby hT ih ⊢
        rcases tab with ⟨q1, q2, q3, q4⟩ | ⟨q1, q2, q3⟩
        · have hl1 : len (qOne (byteAt s p)) = 1 := by rw [q1]; rfl
          have hTb : byteAt T i = byteAt s p := by
            have := hby 0 (Int.le_refl 0) (by omega)
            rw [Int.add_zero, q1, byteAt_cons0] at this
            rw [this]; exact u8_nat hc0.1 (by omega)
          have hrl := rune_low hi hlt (by omega)
          rw [hrl.1, hrl.2, hTb, if_neg (by omega), if_neg (by omega), if_neg (by omega)]
          rw [hl1] at ih ⊢
          exact ih _ (by omega)
        · have hlp := len_nonneg (qOne (byteAt s p))
          have hTb : byteAt T i = 92 := by
            have := hby 0 (Int.le_refl 0) (by omega)
            rw [Int.add_zero, q1] at this; exact this
          have hra : runeAt T i = 92 := (runeAt_low hi hlt (by omega)).2 hTb
          have hesc : escP (from' T i) = (byteAt s p, len (qOne (byteAt s p))) := by
            rw [← q2]
            refine esc_agr (by rw [q2]; exact q3) (by rw [q2, hT, len_app]; dsimp only; omega) (fun j a b => ?_)
            rw [q2] at b
            rw [hT]; exact byteAt_l a b
          rw [hra, if_neg (by omega), if_pos rfl, hesc, if_neg q3]
          exact ih _ (by omega)
      · have hq := qOne_high (h7 (by omega))
        have hlq2 : len (qOne (runeAt s p)) = rune s p := by rw [hq, h5, sub_len h0 (by omega) hle]; omega
        have agr := rune_agr (s := s) (s' := T) (i := p) (i' := i) h0 hi (by omega) hp (by omega) (fun j a b => by
          rw [hby j a (by omega), hq, h5, byteAt_sub h0 a (by omega) hle])
        have h8 := h7 (by omega)
        have hnn := (rune_none hi hlt).2
        rw [agr.2.1, agr.2.2, h3, if_neg (by omega), if_neg (by omega), if_neg (by
          rintro (x | x)
          · omega
          · have := hnn (by rw [agr.2.1, agr.2.2, h3]; exact x)
            omega)]
        rw [hlq2] at ih ⊢
        exact ih _ (by omega)
    · rw [qFrom_end hp] at hT ⊢
      have hTb : byteAt T i = 34 := (byte_of_from hi hT).2
      rw [if_pos ((runeAt_low hi hlt (by omega)).2 hTb), from_nil s p (by omega)]
      simp [len_nil]
termination_by f p => (len s - p).toNat
decreasing_by all_goals omega
theorem unq_quote {s : Str} (h : utf s = true) (r : Str) : unqP (quoteP s ++ r) = (s, len (quoteP s), 0) := by
  have e : quoteP s ++ r = 34 :: (qFrom s 0 ++ 34 :: r) := by unfold quoteP; simp
  have hl : len (quoteP s) = 1 + len (qFrom s 0) + 1 := by unfold quoteP; rw [len_app, len_cons]; simp [len]; omega
  rw [e, hl]
  unfold unqP
  have hp : Lib.hasPrefix (34 :: (qFrom s 0 ++ 34 :: r)) [34] = true := pre_one.2 ⟨by simp, rfl⟩
  rw [if_pos hp, unq_from (s := s) (r := r) _ 0 1 [] (Int.le_refl 0) (len_nonneg s) (by omega) h rfl (by unfold len; simp; omega)]
  rfl

end Go.Eng
namespace Go.Eng
open Go.RowKit

/-- What stands from a place on. -/
def At (s : Str) (i : Int) (u : Str) : Prop := 0 ≤ i ∧ i ≤ len s ∧ from' s i = u
theorem At.add {s : Str} {i : Int} {u r : Str} (h : At s i (u ++ r)) : At s (i + len u) r := by
  obtain ⟨h0, h1, h2⟩ := h
  have hl := from_len s i h0 h1
  rw [h2, len_app] at hl
  have h3 := len_nonneg u; have h4 := len_nonneg r
  refine ⟨by omega, by omega, ?_⟩
  rw [← from_from s i (len u) h0 h3, h2]
  unfold from' len; simp
theorem At.one {s : Str} {i : Int} {c : UInt8} {r : Str} (h : At s i (c :: r)) : At s (i + 1) r := At.add (u := [c]) h
theorem At.lt {s : Str} {i : Int} {c : UInt8} {r : Str} (h : At s i (c :: r)) : i < len s := by
  have hl := from_len s i h.1 h.2.1
  rw [h.2.2, len_cons] at hl
  have := len_nonneg r; omega
theorem At.byte {s : Str} {i : Int} {c : UInt8} {r : Str} (h : At s i (c :: r)) : byteAt s i = (c.toNat : Int) := by
  obtain ⟨b, h1, h2⟩ := from_cons s i h.1 h.lt
  rw [h.2.2] at h1
  rw [h2, (List.cons.inj h1).1]
theorem At.has1 {s : Str} {i : Int} {c x : UInt8} {r : Str} (h : At s i (c :: r)) : hasW s i [x] = (x == c) := by
  unfold hasW Lib.hasPrefix
  rw [h.2.2]
  simp [List.isPrefixOf]
theorem At.hasNo {s : Str} {i : Int} {c x : UInt8} {r t : Str} (h : At s i (c :: r)) (hx : x ≠ c) : hasW s i (x :: t) = false := by
  unfold hasW Lib.hasPrefix
  rw [h.2.2]
  simp [List.isPrefixOf, hx]
theorem At.nil_has {s : Str} {i : Int} {x : UInt8} {t : Str} (h : At s i []) : hasW s i (x :: t) = false := by
  unfold hasW Lib.hasPrefix
  rw [h.2.2]; rfl
def stopB (r : Str) : Prop := ∀ c r', r = c :: r' → isBlankB c = false
theorem At.blank {s : Str} {i : Int} {b r : Str} (h : At s i (b ++ r)) (hb : ∀ c ∈ b, isBlankB c = true) (hr : stopB r) : blankTo s i = i + len b := by
  unfold blankTo
  rw [h.2.2]
  have : (b ++ r).takeWhile isBlankB = b := by
    induction b with
    | nil =>
      cases r with
      | nil => rfl
      | cons c r => rw [List.nil_append, List.takeWhile_cons, hr c r rfl]; rfl
    | cons a b ih =>
      rw [List.cons_append, List.takeWhile_cons, hb a List.mem_cons_self]
      show a :: _ = _
      have key : ∀ (b r : Str), (∀ c ∈ b, isBlankB c = true) → stopB r → (b ++ r).takeWhile isBlankB = b := by
        intro b
        induction b with
        | nil => intro r _ hr; cases r with | nil => rfl | cons c r => rw [List.nil_append, List.takeWhile_cons, hr c r rfl]; rfl
        | cons a b ih2 => intro r hb2 hr; rw [List.cons_append, List.takeWhile_cons, hb2 a List.mem_cons_self, if_pos rfl, ih2 r (fun c hc => hb2 c (List.mem_cons_of_mem _ hc)) hr]
      rw [key b r (fun c hc => hb c (List.mem_cons_of_mem _ hc)) hr]
  rw [this]
theorem At.noblank {s : Str} {i : Int} {r : Str} (h : At s i r) (hr : stopB r) : blankTo s i = i := by
  have := At.blank (b := []) h (fun c hc => by cases hc) hr
  rw [len_nil] at this; omega
/-- A byte with which a value's text may begin. -/
def headB (c : UInt8) : Bool := !isBlankB c && c != 93 && c != 125 && c != 44
theorem head_blank {c : UInt8} (h : headB c = true) : isBlankB c = false := by unfold headB at h; simp only [Bool.and_eq_true, Bool.not_eq_true'] at h; exact h.1.1.1
theorem stop_head {c : UInt8} {r : Str} (h : headB c = true) : stopB (c :: r) := fun x y e => by rw [← (List.cons.inj e).1]; exact head_blank h
end Go.Eng
namespace Go.Eng
open Go.RowKit

/-- A good value, no deeper than so, its texts no longer than so. -/
def GoodV (q D : Int) (x : Vl) : Prop := ∃ t : Tr, x = t.flat ∧ t.good ∧ t.node.name = [] ∧ depthT t ≤ D ∧ shortV q t.flat
/-- A tree no deeper than so, its texts no longer than so. -/
def GoodU (q D : Int) (u : Tr) : Prop := u.good ∧ depthT u ≤ D ∧ shortV q u.flat
/-- What was read: such a value, no greater than so; or an error and where. -/
def POk {α : Type} (P : α → Prop) (sz : α → Int) (c : Int) (s : Str) : PR α → Prop
  | .ok x j => P x ∧ sz x + c ≤ j ∧ 0 ≤ j ∧ j ≤ len s
  | .er k p => k ≠ 0 ∧ 0 ≤ p ∧ p ≤ len s
theorem goodL_of {q D : Int} : ∀ {ts : List Tr}, (∀ u ∈ ts, GoodU q D u) → goodL ts
  | [], _ => trivial
  | t :: ts, h => by rw [goodL]; exact ⟨(h t List.mem_cons_self).1, goodL_of fun u hu => h u (List.mem_cons_of_mem _ hu)⟩
theorem depthL_of {q D : Int} (h0 : 0 ≤ D) : ∀ {ts : List Tr}, (∀ u ∈ ts, GoodU q D u) → depthL ts ≤ D
  | [], _ => h0
  | t :: ts, h => by rw [depthL]; have h1 := (h t List.mem_cons_self).2.1; have h2 := depthL_of h0 fun u hu => h u (List.mem_cons_of_mem _ hu); omega
theorem shortL_of {q D : Int} : ∀ {ts : List Tr}, (∀ u ∈ ts, GoodU q D u) → shortV q (flatL ts)
  | [], _ => fun n hn => by cases hn
  | t :: ts, h => fun n hn => by
    rw [flatL] at hn
    rcases List.mem_append.1 hn with hn | hn
    · exact (h t List.mem_cons_self).2.2 n hn
    · exact shortL_of (fun u hu => h u (List.mem_cons_of_mem _ hu)) n hn
/-- A node of parts over good ones. -/
theorem many_good {q D k : Int} {ts : List Tr} (hq : 0 ≤ q) (h0 : 0 ≤ D) (hk : k = 5 ∨ k = 6) (h : ∀ u ∈ ts, GoodU q D u) (hr : risL k ts) : GoodV q (D + 1) (⟨k, len ts, [], [], false, 0⟩ :: flatL ts) := by
  have hl := len_nonneg ts
  refine ⟨.mk ⟨k, len ts, [], [], false, 0⟩ ts, by rw [Tr.flat], ?_, rfl, ?_, ?_⟩
  · rw [Tr.good]
    refine ⟨?_, rfl, hr, goodL_of h⟩
    unfold plainB bareN
    rw [if_neg (by dsimp only; omega), if_neg (by dsimp only; omega), if_neg (by dsimp only; omega), if_pos hk]
    simp only [Bool.and_eq_true, decide_eq_true_eq]
    exact ⟨hl, trivial⟩
  · rw [depthT]
    have := depthL_of h0 h
    split <;> omega
  · rw [Tr.flat]
    intro n hn
    rcases List.mem_cons.1 hn with rfl | hn
    · exact ⟨hq, hq⟩
    · exact shortL_of h n hn
theorem trees_of {q D : Int} : ∀ {l : List Vl}, (∀ x ∈ l, GoodV q D x) → ∃ ts : List Tr, l.flatten = flatL ts ∧ len l = len ts ∧ (∀ u ∈ ts, GoodU q D u) ∧ risL 5 ts
  | [], _ => ⟨[], rfl, rfl, fun u hu => (by cases hu), trivial⟩
  | x :: l, h => by
    obtain ⟨t, rfl, h1, h2, h3, h4⟩ := h x List.mem_cons_self
    obtain ⟨ts, e1, e2, e3, e4⟩ := trees_of fun y hy => h y (List.mem_cons_of_mem _ hy)
    refine ⟨t :: ts, by rw [List.flatten_cons, flatL, e1], by rw [len_cons, len_cons, e2], fun u hu => ?_, ?_⟩
    · rcases List.mem_cons.1 hu with rfl | hu
      · exact ⟨h1, h3, h4⟩
      · exact e3 u hu
    · rw [risL]
      exact ⟨⟨fun _ => h2, by rw [h2]; exact utf_nil⟩, fun u us _ h6 => absurd h6 (by decide), e4⟩
theorem list_goodV {q D : Int} (hq : 0 ≤ q) (h0 : 0 ≤ D) {l : List Vl} (h : ∀ x ∈ l, GoodV q D x) : GoodV q (D + 1) (listV l) := by
  obtain ⟨ts, e1, e2, e3, e4⟩ := trees_of h
  unfold listV
  rw [e1, e2]
  exact many_good hq h0 (.inl rfl) e3 e4
/-- Pairs of good names and good values. -/
def PairG (q D : Int) (p : Str × Vl) : Prop := utf p.1 = true ∧ len p.1 ≤ q ∧ GoodV q D p.2
theorem named_trees {q D : Int} : ∀ {l : List (Str × Vl)}, (∀ p ∈ l, PairG q D p) → (l.map (·.1)).Pairwise (· < ·) → ∃ ts : List Tr, (l.map fun p => nameV p.1 p.2).flatten = flatL ts ∧ ts.map (·.node.name) = l.map (·.1) ∧ (∀ u ∈ ts, GoodU q D u) ∧ risL 6 ts
  | [], _, _ => ⟨[], rfl, rfl, fun u hu => (by cases hu), trivial⟩
  | p :: l, h, hp => by
    obtain ⟨hu, hl, t, ht, h1, h2, h3, h4⟩ := h p List.mem_cons_self
    rw [List.map_cons, List.pairwise_cons] at hp
    obtain ⟨ts, e1, e2, e3, e4⟩ := named_trees (fun y hy => h y (List.mem_cons_of_mem _ hy)) hp.2
    have hn : (t.named p.1).node.name = p.1 := by cases t; rfl
    refine ⟨t.named p.1 :: ts, ?_, ?_, fun u hu => ?_, ?_⟩
    · rw [List.map_cons, List.flatten_cons, flatL, e1, ht, Tr.named_flat]
    · rw [List.map_cons, List.map_cons, e2, hn]
    · rcases List.mem_cons.1 hu with rfl | hu
      · refine ⟨Tr.named_good h1, by rw [depthT_named]; exact h3, ?_⟩
        obtain ⟨n, ps⟩ := t
        intro m hm
        rw [Tr.named, Tr.flat] at hm
        rcases List.mem_cons.1 hm with rfl | hm
        · exact ⟨(h4 n (by rw [Tr.flat]; exact List.mem_cons_self)).1, hl⟩
        · exact h4 m (by rw [Tr.flat]; exact List.mem_cons_of_mem _ hm)
      · exact e3 u hu
    · rw [risL, hn]
      refine ⟨⟨fun h5 => absurd h5 (by decide), hu⟩, fun u us e _ => ?_, e4⟩
      have hm : u.node.name ∈ l.map (·.1) := by rw [← e2, e]; exact List.mem_cons_self
      rw [Go.Proofs.bytesLess_eq, decide_eq_true_eq]
      exact hp.1 _ hm
theorem sortN_lt {l : List Str} (h : l.Nodup) : (sortN l).Pairwise (· < ·) := by
  have h1 : (sortN l).Pairwise (fun x y => decide (x ≤ y) = true) := List.pairwise_mergeSort str_trans str_total l
  have h2 : (sortN l).Nodup := (List.mergeSort_perm l _).nodup_iff.2 h
  refine (h1.and h2).imp fun {a b} h3 => ?_
  have h4 := h3.1
  rw [decide_eq_true_eq] at h4
  rcases Classical.em (a < b) with h5 | h5
  · exact h5
  · exact absurd (List.le_antisymm h4 (List.not_lt.1 h5)) h3.2
def MapG (q D : Int) (m : List (Str × Vl)) : Prop := KeysOK m ∧ ∀ p ∈ m, PairG q D p
theorem MapG.nil {q D : Int} : MapG q D [] := ⟨by unfold KeysOK; exact List.nodup_nil, fun x hx => by cases hx⟩
theorem obj_goodV {q D : Int} (hq : 0 ≤ q) (h0 : 0 ≤ D) {m : List (Str × Vl)} (h : MapG q D m) : GoodV q (D + 1) (objV m) := by
  have hk : ((sortN (m.map (·.1))).map fun n => (n, (getV m n).getD [])).map (·.1) = sortN (m.map (·.1)) := by rw [List.map_map]; exact List.map_id _
  obtain ⟨ts, e1, e2, e3, e4⟩ := named_trees (q := q) (D := D) (l := (sortN (m.map (·.1))).map fun n => (n, (getV m n).getD [])) (fun p hp => by
    obtain ⟨n, hn, rfl⟩ := List.mem_map.1 hp
    obtain ⟨x, h1, h2⟩ := getV_in (sortN_mem.1 hn)
    have := h.2 _ h2
    rw [h1]; exact this) (by rw [hk]; exact sortN_lt h.1)
  unfold objV laidV
  rw [e1]
  have e5 : len ((sortN (m.map (·.1))).map fun n => (n, (getV m n).getD [])) = len ts := by
    have := congrArg List.length e2
    rw [List.length_map, List.length_map] at this
    unfold len; omega
  rw [e5]
  exact many_good hq h0 (.inr rfl) e3 e4
theorem MapG.put {q D : Int} {m : List (Str × Vl)} {n : Str} {x : Vl} (h : MapG q D m) (hp : PairG q D (n, x)) : MapG q D (putV m n x) := by
  refine ⟨h.1.put n x, ?_⟩
  have key : ∀ {m : List (Str × Vl)}, (∀ p ∈ m, PairG q D p) → ∀ p ∈ putV m n x, PairG q D p := by
    intro m
    induction m with
    | nil => intro _ p hm; simp only [putV, List.mem_singleton] at hm; subst hm; exact hp
    | cons a m ih =>
      intro hm p hpm
      unfold putV at hpm
      split at hpm
      · rcases List.mem_cons.1 hpm with rfl | hpm
        · exact hp
        · exact hm p (List.mem_cons_of_mem _ hpm)
      · rcases List.mem_cons.1 hpm with rfl | hpm
        · exact hm _ List.mem_cons_self
        · exact ih (fun p h => hm p (List.mem_cons_of_mem _ h)) p hpm
  exact key h.2
theorem POk.mapR {α β : Type} {P : α → Prop} {Q : β → Prop} {sz : α → Int} {sz' : β → Int} {c c' : Int} {f : α → β} {s : Str} {r : PR α} (h : POk P sz c s r) (hf : ∀ x, P x → Q (f x) ∧ sz' (f x) + c' ≤ sz x + c) : POk Q sz' c' s (mapR f r) := by
  cases r with
  | ok x j => have := hf x h.1; exact ⟨this.1, by have := h.2.1; omega, h.2.2⟩
  | er c p => exact h
theorem POk.more {α : Type} {P : α → Prop} {sz : α → Int} {c : Int} {s : Str} {e : UInt8} {r : PR α} {go : α → Int → PR α} (h : POk P sz c s r) (hg : ∀ x k, P x → sz x + c ≤ k → 0 ≤ k → k ≤ len s → POk P sz c s (go x k)) : POk P sz c s (moreT s [e] r go) := by
  cases r with
  | er c p => exact h
  | ok x j =>
    obtain ⟨h1, h4, h2, h3⟩ := h
    have hb := blankTo_bd s j h2 h3
    unfold moreT
    dsimp only
    split
    · rename_i hw
      have := hasW_le (by omega) hb.2 hw
      rw [len_cons, len_nil] at this
      exact ⟨h1, by omega, by omega, by omega⟩
    · split
      · rename_i hw
        have := hasW_le (by omega) hb.2 hw
        rw [len_cons, len_nil] at this
        have hb2 := blankTo_bd s (blankTo s j + 1) (by omega) (by omega)
        exact hg x _ h1 (by omega) (by omega) hb2.2
      · exact ⟨by decide, by omega, hb.2⟩
theorem POk.parts {α : Type} {P : α → Prop} {sz : α → Int} {c : Int} {s : Str} {i : Int} {e : UInt8} {x0 : α} {go : α → Int → PR α} (h0 : 0 ≤ i) (h1 : i < len s) (hx : P x0) (hz : sz x0 + c ≤ i + 1) (hg : ∀ k, i + 1 ≤ k → k ≤ len s → POk P sz c s (go x0 k)) : POk P sz c s (partsT s i [e] x0 go) := by
  have hb := blankTo_bd s (i + 1) (by omega) (by omega)
  unfold partsT
  split
  · rename_i hw
    have := hasW_le (by omega) hb.2 hw
    rw [len_cons, len_nil] at this
    exact ⟨hx, by omega, by omega, by omega⟩
  · exact hg _ (by omega) hb.2
theorem text_ok {s : Str} {i : Int} (h0 : 0 ≤ i) (h1 : i ≤ len s) : POk (fun x => utf x = true ∧ len x ≤ 4 * len s + 100) (fun _ => 2) i s (textT s i) := by
  have hl := from_len s i h0 h1
  have hb := unqP_bd (from' s i)
  have hn := unq_len (from' s i)
  unfold textT
  split
  · rename_i h; exact ⟨h, by omega, by omega⟩
  · rename_i h
    have := hb.2.2.1 (by omega)
    exact ⟨⟨unq_utf _, by omega⟩, by show (2 : Int) + i ≤ _; omega, by omega, by omega⟩
theorem num_ok {s : Str} {i D : Int} (h0 : 0 ≤ i) (h1 : i < len s) (h2 : byteAt s i = 45 ∨ isFig (byteAt s i) = true) (hD : 0 ≤ D) : POk (GoodV (4 * len s + 100) D) len i s (numT s i) := by
  have hl := from_len s i h0 (by omega)
  have hr := runN_le (from' s i)
  have hp := runN_pos h0 h1 h2
  have hb := read1_bd (runN (from' s i))
  have hk := read_ok (runN (from' s i))
  have hs := len_nonneg s
  unfold numT
  split
  · rename_i h; exact ⟨h, by omega, by omega⟩
  · rename_i h
    have h3 := hk.1 (Classical.not_not.1 h)
    have h4 := right_open h3
    generalize (read1 (runN (from' s i))).1 = n at h3 h4
    have hkd : n.kind = 3 := by rw [h4.1]
    have hnm : n.name = [] := by rw [h4.1]
    have hmn : n.many = 0 := by rw [h4.1]
    refine ⟨⟨.mk n [], by rw [Tr.flat, flatL], ?_, hnm, ?_, ?_⟩, by rw [len_cons, len_nil]; omega, by omega, by omega⟩
    · rw [Tr.good]
      refine ⟨?_, hmn, trivial, trivial⟩
      unfold plainB
      rw [if_neg (by omega), if_pos hkd]
      have : bareN n = n := by unfold bareN; rw [← hnm]
      rw [this]; exact h3
    · rw [depthT, if_pos (by omega)]; exact hD
    · rw [Tr.flat, flatL]
      intro m hm
      rw [List.mem_singleton] at hm
      subst hm
      rw [hnm, len_nil]
      exact ⟨by have := h4.2.2.1; omega, by omega⟩
theorem one_good {q D : Int} {n : Nd} (h : plainB n = true) (hk : n.kind < 5) (hn : n.name = []) (hm : n.many = 0) (hq : 0 ≤ q) (hs : len n.s ≤ q) (hD : 0 ≤ D) : GoodV q D [n] := by
  refine ⟨.mk n [], by rw [Tr.flat, flatL], ?_, hn, ?_, ?_⟩
  · rw [Tr.good]; exact ⟨h, hm, trivial, trivial⟩
  · rw [depthT, if_pos (by omega)]; exact hD
  · rw [Tr.flat, flatL]
    intro m hm
    rw [List.mem_singleton] at hm
    subst hm
    rw [hn, len_nil]; exact ⟨hs, hq⟩
theorem pair_ok {s : Str} {i c D : Int} {val : Int → PR Vl} {m : List (Str × Vl)} (h0 : 0 ≤ i) (h1 : i ≤ len s) (hc : mapN m + c ≤ i) (hv : ∀ k, i ≤ k → k ≤ len s → POk (GoodV (4 * len s + 100) D) len k s (val k)) (hm : MapG (4 * len s + 100) D m) : POk (MapG (4 * len s + 100) D) mapN c s (pairT s i val m) := by
  have ht := text_ok h0 h1
  unfold pairT
  generalize textT s i = r at ht
  cases r with
  | er c p => exact ht
  | ok n j =>
    obtain ⟨h2, h5, h3, h4⟩ := ht
    have h5 : 2 + i ≤ j := h5
    have hb := blankTo_bd s j h3 h4
    dsimp only
    split
    · rename_i hw
      have := hasW_le (by omega) hb.2 hw
      rw [len_cons, len_nil] at this
      have hb2 := blankTo_bd s (blankTo s j + 1) (by omega) (by omega)
      exact (hv _ (by omega) hb2.2).mapR fun x hx => ⟨hm.put ⟨h2.1, h2.2, hx⟩, by have := (putV_n n x m).1; omega⟩
    · exact ⟨by decide, by omega, hb.2⟩
theorem val_ok {s : Str} : ∀ f : Nat, (∀ i d, 0 ≤ i → i ≤ len s → 0 ≤ d → d ≤ 128 → POk (GoodV (4 * len s + 100) (128 - d)) len i s (valT f s i d)) ∧
    (∀ i d l c, 0 ≤ i → i ≤ len s → 0 ≤ d → d < 128 → (∀ x ∈ l, GoodV (4 * len s + 100) (128 - (d + 1)) x) → len l.flatten + c ≤ i → POk (fun l : List Vl => ∀ x ∈ l, GoodV (4 * len s + 100) (128 - (d + 1)) x) (fun l => len l.flatten) c s (itemsT f s d l i)) ∧
    (∀ i d m c, 0 ≤ i → i ≤ len s → 0 ≤ d → d < 128 → MapG (4 * len s + 100) (128 - (d + 1)) m → mapN m + c ≤ i → POk (MapG (4 * len s + 100) (128 - (d + 1))) mapN c s (pairsT f s d m i)) := by
  have hs := len_nonneg s
  intro f
  induction f with
  | zero =>
    refine ⟨fun i d h0 h1 _ _ => ?_, fun i d l c h0 h1 _ _ _ _ => ?_, fun i d m c h0 h1 _ _ _ _ => ?_⟩
    · rw [valT]; exact ⟨by decide, h0, h1⟩
    · rw [itemsT]; exact ⟨by decide, h0, h1⟩
    · rw [pairsT]; exact ⟨by decide, h0, h1⟩
  | succ f ih =>
    refine ⟨fun i d h0 h1 h2 h3 => ?_, fun i d l c h0 h1 h2 h3 hl hc => ?_, fun i d m c h0 h1 h2 h3 hm hc => ?_⟩
    · have hw : ∀ k : Int, k = 0 ∨ k = 1 ∨ k = 2 → GoodV (4 * len s + 100) (128 - d) [kindN k] := fun k hk => by
        refine one_good ?_ (by show k < 5; omega) rfl rfl (by omega) (by show len ([] : Str) ≤ _; rw [len_nil]; omega) (by omega)
        rcases hk with rfl | rfl | rfl <;> decide
      have l1 : ∀ n : Nd, len [n] = 1 := fun n => rfl
      rw [valT]
      split
      · rename_i hh; have := hasW_le h0 h1 hh; exact ⟨hw 0 (.inl rfl), by rw [l1]; omega, by omega, this⟩
      split
      · rename_i hh; have := hasW_le h0 h1 hh; exact ⟨hw 1 (.inr (.inl rfl)), by rw [l1]; omega, by omega, this⟩
      split
      · rename_i hh; have := hasW_le h0 h1 hh; exact ⟨hw 2 (.inr (.inr rfl)), by rw [l1]; omega, by omega, this⟩
      split
      · exact ⟨by decide, h0, h1⟩
      split
      · refine (text_ok h0 h1).mapR fun x hx => ⟨one_good ?_ (by show (4 : Int) < 5; decide) rfl rfl (by omega) hx.2 (by omega), by rw [l1]; omega⟩
        show plainB ⟨4, 0, [], x, false, 0⟩ = true
        unfold plainB bareN
        rw [if_neg (by dsimp only; omega), if_neg (by dsimp only; omega), if_pos rfl, hx.1]
        simp
      split
      · exact num_ok h0 (by omega) (by assumption) (by omega)
      split
      · exact ⟨by decide, h0, h1⟩
      split
      · exact ⟨by decide, h0, h1⟩
      have e : (128 - d : Int) = 128 - (d + 1) + 1 := by omega
      rename_i hd
      have hd : d < 128 := by omega
      rw [e]
      split
      · exact (POk.parts h0 (by omega) (P := fun l : List Vl => ∀ x ∈ l, GoodV (4 * len s + 100) (128 - (d + 1)) x) (sz := fun l => len l.flatten) (c := i + 1) (fun x hx => by cases hx) (by show len ([] : List Nd) + (i + 1) ≤ i + 1; rw [len_nil]; omega) fun k k0 k1 => ih.2.1 k d [] (i + 1) (by omega) k1 h2 hd (fun x hx => by cases hx) (by show len ([] : List Nd) + (i + 1) ≤ k; rw [len_nil]; omega)).mapR fun l hl => ⟨list_goodV (by omega) (by omega) hl, by show len (listV l) + i ≤ len l.flatten + (i + 1); unfold listV; rw [len_cons]; omega⟩
      · exact (POk.parts h0 (by omega) (P := MapG (4 * len s + 100) (128 - (d + 1))) (sz := mapN) (c := i + 1) MapG.nil (by show len ([] : List Nd) + (i + 1) ≤ i + 1; rw [len_nil]; omega) fun k k0 k1 => ih.2.2 k d [] (i + 1) (by omega) k1 h2 hd MapG.nil (by show len ([] : List Nd) + (i + 1) ≤ k; rw [len_nil]; omega)).mapR fun l hl => ⟨obj_goodV (by omega) (by omega) hl, by have := objV_le hl.1; omega⟩
    · rw [itemsT]
      refine POk.more ?_ fun x k hx hz k0 k1 => ih.2.1 k d x c k0 k1 h2 h3 hx hz
      refine (ih.1 i (d + 1) h0 h1 (by omega) (by omega)).mapR fun v hv => ⟨fun x hx => ?_, ?_⟩
      · rcases List.mem_append.1 hx with hx | hx
        · exact hl x hx
        · rw [List.mem_singleton] at hx; subst hx; exact hv
      · show len (l ++ [v]).flatten + c ≤ len v + i
        rw [List.flatten_append, len_app]
        simp only [List.flatten_cons, List.flatten_nil, List.append_nil]; omega
    · rw [pairsT]
      refine POk.more ?_ fun x k hx hz k0 k1 => ih.2.2 k d x c k0 k1 h2 h3 hx hz
      exact pair_ok h0 h1 hc (fun k k0 k1 => ih.1 k (d + 1) (by omega) k1 (by omega) (by omega)) hm
/-- What a text is read as: a good value, or an error within the text. -/
theorem parse_good (s : Str) : ((parseT s).2.2 = 0 → GoodV (4 * len s + 100) 128 (parseT s).1 ∧ len (parseT s).1 ≤ len s) ∧ ((parseT s).2.2 ≠ 0 → (parseT s).1 = [] ∧ 0 ≤ (parseT s).2.1 ∧ (parseT s).2.1 ≤ len s) := by
  have hs := len_nonneg s
  have hb := blankTo_bd s 0 (Int.le_refl 0) hs
  have hv := (val_ok (s := s) (2 * s.length + 2)).1 (blankTo s 0) 0 (by omega) hb.2 (by omega) (by omega)
  unfold parseT
  generalize valT (2 * s.length + 2) s (blankTo s 0) 0 = r at hv
  cases r with
  | er c p => exact ⟨fun h => absurd h hv.1, fun _ => ⟨rfl, hv.2⟩⟩
  | ok v j =>
    have hb2 := blankTo_bd s j hv.2.2.1 hv.2.2.2
    have h1 := hv.2.1
    have h2 := hv.2.2.1
    dsimp only
    split
    · exact ⟨fun h => absurd (show (1 : Int) = 0 from h) (by decide), fun _ => ⟨rfl, (by omega : 0 ≤ blankTo s j), hb2.2⟩⟩
    · exact ⟨fun _ => ⟨hv.1, (by omega : len v ≤ len s)⟩, fun h => absurd rfl h⟩
end Go.Eng
namespace Go.Eng

theorem at_mem {α : Type} [Inhabited α] {l : List α} {k : Int} (h0 : 0 ≤ k) (h1 : k < len l) : at' l k ∈ l := at'_mem h0 h1
theorem mem_at {α : Type} [Inhabited α] {l : List α} {x : α} (h : x ∈ l) : ∃ i : Int, 0 ≤ i ∧ i < len l ∧ at' l i = x := by
  obtain ⟨i, hi, e⟩ := List.getElem_of_mem h
  refine ⟨i, by omega, by unfold len; omega, ?_⟩
  obtain ⟨hlt, e2⟩ := at'_eq l (i := i) (by omega) (by unfold len; omega)
  rw [e2]; simpa using e
theorem at_inj {α : Type} [Inhabited α] {l : List α} (hn : l.Nodup) {i j : Int} (hi0 : 0 ≤ i) (hi : i < len l) (hj0 : 0 ≤ j) (hj : j < len l) (h : at' l i = at' l j) : i = j := by
  obtain ⟨h1, e1⟩ := at'_eq l hi0 hi
  obtain ⟨h2, e2⟩ := at'_eq l hj0 hj
  rw [e1, e2] at h
  have := (List.getElem_inj hn).1 h
  omega
theorem subA_snoc {α : Type} [Inhabited α] {l : List α} {k : Int} (h0 : 0 ≤ k) (h1 : k < len l) : Eng.sub l 0 (k + 1) = Eng.sub l 0 k ++ [at' l k] := by
  obtain ⟨hlt, e⟩ := at'_eq l h0 h1
  unfold Eng.sub
  rw [e, show (k + 1).toNat - (0 : Int).toNat = k.toNat + 1 by omega, show k.toNat - (0 : Int).toNat = k.toNat by omega]
  simp only [Int.toNat_zero, List.drop_zero]
  rw [List.take_add_one, List.getElem?_eq_getElem hlt]; rfl
theorem subA_all {α : Type} {l : List α} {k : Int} (h : len l ≤ k) : Eng.sub l 0 k = l := by
  unfold Eng.sub len at *
  simp only [Int.toNat_zero, List.drop_zero, Nat.sub_zero]
  exact List.take_of_length_le (by omega)
theorem subA_at {α : Type} [Inhabited α] {l : List α} {k i : Int} (h0 : 0 ≤ i) (h1 : i < k) (hk : k ≤ len l) : at' (Eng.sub l 0 k) i = at' l i := by
  unfold at' Eng.sub
  simp only [Int.toNat_zero, List.drop_zero, Nat.sub_zero, List.getD]
  rw [List.getElem?_take, if_pos (by omega)]
theorem mem_sub {α : Type} [Inhabited α] {l : List α} {k : Int} (hk : k ≤ len l) {x : α} (h : x ∈ Eng.sub l 0 k) : ∃ i : Int, 0 ≤ i ∧ i < k ∧ at' l i = x := by
  unfold Eng.sub at h
  simp only [Int.toNat_zero, List.drop_zero, Nat.sub_zero] at h
  obtain ⟨i, hi, e⟩ := List.getElem_of_mem h
  rw [List.length_take] at hi
  refine ⟨i, by omega, by omega, ?_⟩
  obtain ⟨hlt, e2⟩ := at'_eq l (i := i) (by omega) (by unfold len at *; omega)
  rw [e2, ← e]; simp
theorem sub_mem {α : Type} [Inhabited α] {l : List α} {k i : Int} (h0 : 0 ≤ i) (h1 : i < k) (hk : k ≤ len l) : at' l i ∈ Eng.sub l 0 k := by
  obtain ⟨hlt, e⟩ := at'_eq l h0 (by omega)
  unfold Eng.sub
  simp only [Int.toNat_zero, List.drop_zero, Nat.sub_zero]
  rw [e]
  exact List.mem_take_iff_getElem.2 ⟨i.toNat, by omega, rfl⟩
/-- The best one so far of those that are not done. -/
def BestOK (ns : List Str) (dn : List Bool) (i best : Int) : Prop := (best = -1 ∧ ∀ q, 0 ≤ q → q < i → at' dn q = true) ∨ (0 ≤ best ∧ best < i ∧ at' dn best = false ∧ ∀ q, 0 ≤ q → q < i → at' dn q = false → ¬ at' ns q < at' ns best)
theorem BestOK.yes {ns : List Str} {dn : List Bool} {i best : Int} (h : BestOK ns dn i best) (h0 : 0 ≤ i) (hd : at' dn i = false) (hc : best < 0 ∨ at' ns i < at' ns best) : BestOK ns dn (i + 1) i := by
  refine .inr ⟨h0, by omega, hd, fun q hq0 hq hqd => ?_⟩
  by_cases hqi : q = i
  · subst hqi; exact List.lt_irrefl _
  · rcases h with ⟨_, h2⟩ | ⟨h1, _, _, h2⟩
    · rw [h2 q hq0 (by omega)] at hqd; cases hqd
    · have h3 := h2 q hq0 (by omega) hqd
      have h4 := hc.resolve_left (by omega)
      exact fun h5 => h3 (List.lt_trans h5 h4)
theorem BestOK.no {ns : List Str} {dn : List Bool} {i best : Int} (h : BestOK ns dn i best) (hc : at' dn i = true ∨ (0 ≤ best ∧ ¬ at' ns i < at' ns best)) : BestOK ns dn (i + 1) best := by
  rcases h with ⟨h1, h2⟩ | ⟨h1, h2, h3, h4⟩
  · refine .inl ⟨h1, fun q hq0 hq => ?_⟩
    by_cases hqi : q = i
    · subst hqi; exact hc.resolve_right (fun h => by omega)
    · exact h2 q hq0 (by omega)
  · refine .inr ⟨h1, by omega, h3, fun q hq0 hq hqd => ?_⟩
    by_cases hqi : q = i
    · subst hqi
      rcases hc with hc | hc
      · rw [hc] at hqd; cases hqd
      · exact hc.2
    · exact h4 q hq0 (by omega) hqd
/-- Done are those that stand already. -/
def DoneOK (ns : List Str) (dn : List Bool) (j : Int) : Prop := len dn = len ns ∧ ∀ i, 0 ≤ i → i < len ns → (at' dn i = true ↔ at' ns i ∈ Eng.sub (sortN ns) 0 j)
theorem DoneOK.start (ns : List Str) : DoneOK ns (List.replicate (len ns).toNat false) 0 := by
  refine ⟨by unfold len; simp, fun i h0 h1 => ?_⟩
  have e : at' (List.replicate (len ns).toNat false) i = false := by unfold at'; simp [List.getD, List.getElem?_replicate]; split <;> rfl
  rw [e]
  simp [Eng.sub]
theorem DoneOK.best {ns : List Str} {dn : List Bool} {j best : Int} (hn : ns.Nodup) (h : DoneOK ns dn j) (h0 : 0 ≤ j) (hj : j < len ns) (hb : BestOK ns dn (len ns) best) : 0 ≤ best ∧ best < len ns ∧ at' ns best = at' (sortN ns) j := by
  have hsl := sortN_len ns
  have hsn : (sortN ns).Nodup := (List.mergeSort_perm ns _).nodup_iff.2 hn
  have hjm : at' (sortN ns) j ∈ ns := sortN_mem.1 (at_mem h0 (by omega))
  obtain ⟨i, hi0, hi, hie⟩ := mem_at hjm
  have hnot : ∀ q, j ≤ q → q < len ns → at' (sortN ns) q ∉ Eng.sub (sortN ns) 0 j := fun q hq hq1 hm => by
    obtain ⟨p, hp0, hp, hpe⟩ := mem_sub (by omega) hm
    have := at_inj hsn hp0 (by omega) (by omega) (by omega) hpe
    omega
  have hid : at' dn i = false := by
    cases hd : at' dn i with
    | false => rfl
    | true => have := (h.2 i hi0 hi).1 hd; rw [hie] at this; exact absurd this (hnot j (Int.le_refl _) hj)
  rcases hb with ⟨h1, h2⟩ | ⟨h1, h2, h3, h4⟩
  · rw [h2 i hi0 hi] at hid; cases hid
  · refine ⟨h1, h2, ?_⟩
    have h5 := h4 i hi0 hi hid
    rw [hie] at h5
    obtain ⟨q, hq0, hq, hqe⟩ := mem_at (sortN_mem.2 (at_mem h1 h2))
    rw [← hqe] at h5 ⊢
    by_cases hqj : q < j
    · have : at' dn best = true := (h.2 best h1 h2).2 (by rw [← hqe]; exact sub_mem hq0 hqj (by omega))
      rw [this] at h3; cases h3
    · by_cases he : q = j
      · rw [he]
      · obtain ⟨ha, ea⟩ := at'_eq (sortN ns) h0 (by omega)
        obtain ⟨hc, ec⟩ := at'_eq (sortN ns) hq0 hq
        have hlt := List.pairwise_iff_getElem.1 (sortN_lt hn) j.toNat q.toNat ha hc (by omega)
        rw [ea, ec] at h5
        exact absurd hlt h5
theorem DoneOK.step {ns : List Str} {dn : List Bool} {j best : Int} (hn : ns.Nodup) (h : DoneOK ns dn j) (h0 : 0 ≤ j) (hj : j < len ns) (hb : 0 ≤ best ∧ best < len ns ∧ at' ns best = at' (sortN ns) j) : DoneOK ns (dn.set best.toNat true) (j + 1) := by
  have hsl := sortN_len ns
  refine ⟨by unfold len; rw [List.length_set]; exact h.1, fun i hi0 hi => ?_⟩
  rw [subA_snoc h0 (by omega), List.mem_append, List.mem_singleton, ← hb.2.2]
  have hd := h.2 i hi0 hi
  have hdl : i.toNat < dn.length := by have := h.1; unfold len at *; omega
  by_cases hib : i = best
  · subst hib
    have : at' (dn.set i.toNat true) i = true := by unfold at'; simp [List.getD, hdl]
    rw [this]; simp
  · have : at' (dn.set best.toNat true) i = at' dn i := by
      unfold at'; simp only [List.getD]; rw [List.getElem?_set_ne (by omega)]
    rw [this, hd]
    refine ⟨.inl, fun hx => hx.resolve_right fun e => hib (at_inj hn hi0 hi hb.1 hb.2.1 e)⟩
theorem zip_get {ns : List Str} {xs : List Vl} (hn : ns.Nodup) (hl : len ns = len xs) {b : Int} (h0 : 0 ≤ b) (h1 : b < len ns) : (getV (ns.zip xs) (at' ns b)).getD [] = at' xs b := by
  have hk : KeysOK (ns.zip xs) := by unfold KeysOK; rw [zip_keys hl]; exact hn
  have hz := zip_at (ns := ns) (xs := xs) h0 (by omega) hl
  have := getV_of_mem hk (List.mem_of_getElem? hz)
  rw [this]; rfl
theorem partsL_snoc (l : List Str) (n : Str) (m : List (Str × Vl)) : partsL (l ++ [n]) m = partsL l m ++ [(getV m n).getD []] := by unfold partsL; simp
end Go.Eng
