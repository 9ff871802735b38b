/-
  THE PLAIN FORMS OF STRINGS: what quote computes.
  THE PLAIN FORMS OF THE DOCUMENT's ANSWERS: louperef01, 03, 04, 08.
  PLAIN LEAN: UTF-8, of bytes alone: the document's runes and Go's decoding. No program in it.
  PLAIN LEAN: UTF-8, as the document has it ('rune') and as Go decodes it ('runeAt', 'runeLen'). No program in it.
  THE PLAIN FORMS OF TOKENS: what lex and louperef08 reckon. No program in it.
-/
import Derived.Test.YtjfaikgooldcbaaGreatDoorZt9
import Derived.Test.YtjfaikgooldcbaaGreatDoorZt3
import Derived.Lib.RuneBytes
import Derived.Lib.QuoteLoop
import Derived.Lib.RuneCount
import Derived.Lib.DecodeN
import Derived.Lib.Join
set_option linter.unusedVariables false
set_option linter.unusedSimpArgs false
namespace Go.Eng
open Go.RowKit

/-- The escapes of one letter, as the program's map has them. -/
def shortKV : List KV := [⟨34, .int .i32 34, 0⟩, ⟨92, .int .i32 92, 1⟩, ⟨47, .int .i32 47, 2⟩, ⟨98, .int .i32 8, 3⟩, ⟨102, .int .i32 12, 4⟩, ⟨110, .int .i32 10, 5⟩, ⟨114, .int .i32 13, 6⟩, ⟨116, .int .i32 9, 7⟩]
def rOf (p : KV) : Int := match p.val with | .int _ x => x | _ => 0
theorem short_val : ∀ p ∈ shortKV, p.val = .int .i32 (rOf p) := by
  intro p hp
  simp only [shortKV, List.mem_cons, List.not_mem_nil, or_false] at hp
  rcases hp with rfl | rfl | rfl | rfl | rfl | rfl | rfl | rfl <;> rfl
theorem short_hold : ∀ p ∈ shortKV, p.born < 8 := by
  intro p hp
  simp only [shortKV, List.mem_cons, List.not_mem_nil, or_false] at hp
  rcases hp with rfl | rfl | rfl | rfl | rfl | rfl | rfl | rfl <;> decide
theorem short_nodup : (shortKV.map (·.born)).Nodup := by decide
theorem short_inj : ∀ p ∈ shortKV, ∀ q ∈ shortKV, rOf p = rOf q → p = q := by
  intro p hp q hq h
  simp only [shortKV, List.mem_cons, List.not_mem_nil, or_false] at hp hq
  rcases hp with rfl | rfl | rfl | rfl | rfl | rfl | rfl | rfl <;> rcases hq with rfl | rfl | rfl | rfl | rfl | rfl | rfl | rfl <;> first | rfl | (exfalso; revert h; decide)
/-- What such a letter stands for. -/
def shIs (c : Int) : Bool := c == 34 || c == 92 || c == 47 || c == 98 || c == 102 || c == 110 || c == 114 || c == 116
def shV (c : Int) : Int := if c = 98 then 8 else if c = 102 then 12 else if c = 110 then 10 else if c = 114 then 13 else if c = 116 then 9 else if shIs c then c else 0
theorem short_get (c : Int) : (kget shortKV c).getD (.int .i32 0) = .int .i32 (shV c) ∧ (kget shortKV c).isSome = shIs c := by
  simp only [shortKV, kget, beq_iff_eq]
  by_cases h1 : c = 34
  · subst h1; exact ⟨rfl, rfl⟩
  by_cases h2 : c = 92
  · subst h2; exact ⟨rfl, rfl⟩
  by_cases h3 : c = 47
  · subst h3; exact ⟨rfl, rfl⟩
  by_cases h4 : c = 98
  · subst h4; exact ⟨rfl, rfl⟩
  by_cases h5 : c = 102
  · subst h5; exact ⟨rfl, rfl⟩
  by_cases h6 : c = 110
  · subst h6; exact ⟨rfl, rfl⟩
  by_cases h7 : c = 114
  · subst h7; exact ⟨rfl, rfl⟩
  by_cases h8 : c = 116
  · subst h8; exact ⟨rfl, rfl⟩
  rw [if_neg h1, if_neg h2, if_neg h3, if_neg h4, if_neg h5, if_neg h6, if_neg h7, if_neg h8]
  have : shIs c = false := by simp [shIs, h1, h2, h3, h4, h5, h6, h7, h8]
  simp [shV, this, h4, h5, h6, h7, h8]
/-- Which letter is a rune's escape. -/
def letIs (r : Int) : Bool := r == 34 || r == 92 || r == 8 || r == 12 || r == 10 || r == 13 || r == 9
def letV (r : Int) : Int := if r = 8 then 98 else if r = 12 then 102 else if r = 10 then 110 else if r = 13 then 114 else if r = 9 then 116 else if letIs r then r else 0
/-- The letters of runes, of those entries that are seen. -/
def Lets (seen : Array Nat) (l : List KV) : Prop :=
  (l.map (·.key)).Nodup ∧ (∀ p ∈ shortKV, seen.contains p.born = true → kget l (rOf p) = some (.int .u8 p.key)) ∧ ∀ r, (∀ p ∈ shortKV, seen.contains p.born = true → rOf p ≠ r) → kget l r = none
theorem kget_none {l : List KV} {x : Int} (h : kget l x = none) : ∀ p ∈ l, p.key ≠ x := by
  induction l with
  | nil => intro p hp; cases hp
  | cons a l ih =>
    intro p hp
    unfold kget at h
    split at h
    · cases h
    · rename_i hn
      rcases List.mem_cons.1 hp with rfl | hp
      · intro e; subst e; simp at hn
      · exact ih h p hp
theorem kput_none {l : List KV} {x : Int} {v : Value} (h : kget l x = none) : kput l x v = none := by
  induction l with
  | nil => rfl
  | cons a l ih =>
    unfold kget at h; unfold kput
    split at h
    · cases h
    · rename_i hn; rw [if_neg hn, ih h]; rfl
theorem kget_snoc (l : List KV) (p : KV) (x : Int) (h : kget l p.key = none) : kget (l ++ [p]) x = if x == p.key then some p.val else kget l x := by
  induction l with
  | nil => simp [kget]
  | cons a l ih =>
    have hn : ¬ (p.key == a.key) = true := by intro e; simp [kget, e] at h
    have h' : kget l p.key = none := by simpa [kget, hn] using h
    simp only [List.cons_append, kget, ih h']
    by_cases e1 : (x == a.key) = true
    · rw [if_pos e1, if_pos e1]
      have : ¬ (x == p.key) = true := by
        intro e2; apply hn
        have a1 : x = a.key := by simpa using e1
        have a2 : x = p.key := by simpa using e2
        simp [← a1, ← a2]
      rw [if_neg this]
    · rw [if_neg e1, if_neg e1]
theorem kget_kdel (l : List KV) (x y : Int) (h : (l.map (·.key)).Nodup) : kget (kdel l x) y = if y == x then none else kget l y := by
  induction l with
  | nil => simp [kdel, kget]
  | cons a l ih =>
    rw [List.map_cons, List.nodup_cons] at h
    have ih' := ih h.2
    unfold kdel
    by_cases e : (x == a.key) = true
    · rw [if_pos e]
      have e' : x = a.key := by simpa using e
      by_cases f : (y == x) = true
      · rw [if_pos f]
        have f' : y = x := by simpa using f
        cases hk : kget l y with
        | none => rfl
        | some v =>
          exfalso; apply h.1
          have : ∃ p ∈ l, p.key = y := by
            clear ih ih' h
            induction l with
            | nil => cases hk
            | cons b l ih2 =>
              unfold kget at hk
              split at hk
              · rename_i hb; exact ⟨b, by simp, by simpa using (by simpa using hb : y = b.key).symm⟩
              · obtain ⟨p, hp, hq⟩ := ih2 hk; exact ⟨p, by simp [hp], hq⟩
          obtain ⟨p, hp, hq⟩ := this
          exact List.mem_map.2 ⟨p, hp, by rw [hq, f', e']⟩
      · rw [if_neg f]
        rw [show kget (a :: l) y = if y == a.key then some a.val else kget l y from rfl, if_neg (by rw [← e']; exact f)]
    · rw [if_neg e]
      unfold kget
      by_cases f : (y == a.key) = true
      · rw [if_pos f, if_pos f]
        have : ¬ (y == x) = true := by
          intro g; apply e
          have a1 : y = a.key := by simpa using f
          have a2 : y = x := by simpa using g
          simp [← a1, ← a2]
        rw [if_neg this]
      · rw [if_neg f, if_neg f]; exact ih'
theorem Lets.step {seen : Array Nat} {l : List KV} {c : Nat} (h : Lets seen l) {p : KV} (hp : p ∈ shortKV) (hn : ¬ seen.contains p.born = true) : Lets (seen.push p.born) (kset l c (rOf p) (.int .u8 p.key)) := by
  obtain ⟨h1, h2, h3⟩ := h
  have hne : ∀ q ∈ shortKV, seen.contains q.born = true → rOf q ≠ rOf p := by
    intro q hq hs e
    have := short_inj q hq p hp e
    subst this; exact hn hs
  have h0 : kget l (rOf p) = none := h3 _ hne
  have hk : kset l c (rOf p) (.int .u8 p.key) = l ++ [⟨rOf p, .int .u8 p.key, c⟩] := by unfold kset; rw [kput_none h0]
  rw [hk]
  have hc : ∀ q : KV, (seen.push p.born).contains q.born = true ↔ seen.contains q.born = true ∨ q.born = p.born := by
    intro q; simp [Array.contains_iff_mem, Array.mem_push]
  refine ⟨?_, ?_, ?_⟩
  · rw [List.map_append, List.nodup_append]
    refine ⟨h1, by simp, ?_⟩
    intro x hx y hy
    simp only [List.map_cons, List.map_nil, List.mem_singleton] at hy
    subst hy
    obtain ⟨q, hq, rfl⟩ := List.mem_map.1 hx
    exact kget_none h0 q hq
  · intro q hq hs
    rw [kget_snoc _ _ _ h0]
    rcases (hc q).1 hs with hs | hs
    · rw [if_neg (by simpa using hne q hq hs)]; exact h2 q hq hs
    · have : q = p := by
        have hnd := short_nodup
        simp only [shortKV, List.mem_cons, List.not_mem_nil, or_false] at hp hq
        rcases hp with rfl | rfl | rfl | rfl | rfl | rfl | rfl | rfl <;> rcases hq with rfl | rfl | rfl | rfl | rfl | rfl | rfl | rfl <;> first | rfl | (exfalso; revert hs; decide)
      subst this; simp
  · intro r hr
    have hpr : rOf p ≠ r := hr p hp ((hc p).2 (.inr rfl))
    rw [kget_snoc _ _ _ h0, if_neg (by simpa using fun e => hpr e.symm)]
    exact h3 r fun q hq hs => hr q hq ((hc q).2 (.inl hs))
theorem letG_end {seen : Array Nat} {l : List KV} (h : Lets seen l) (hall : ∀ p ∈ shortKV, seen.contains p.born = true) (r : Int) :
    (kget (kdel l 47) r).getD (.int .u8 0) = .int .u8 (letV r) ∧ (kget (kdel l 47) r).isSome = letIs r := by
  obtain ⟨h1, h2, h3⟩ := h
  rw [kget_kdel _ _ _ h1]
  have hs : ∀ p ∈ shortKV, kget l (rOf p) = some (.int .u8 p.key) := fun p hp => h2 p hp (hall p hp)
  by_cases e0 : r = 47
  · subst e0; exact ⟨rfl, rfl⟩
  rw [if_neg (by simpa using e0)]
  by_cases e1 : r = 34
  · subst e1; have := hs ⟨34, .int .i32 34, 0⟩ (by simp [shortKV]); rw [show rOf ⟨34, .int .i32 34, 0⟩ = 34 from rfl] at this; rw [this]; exact ⟨rfl, rfl⟩
  by_cases e2 : r = 92
  · subst e2; have := hs ⟨92, .int .i32 92, 1⟩ (by simp [shortKV]); rw [show rOf ⟨92, .int .i32 92, 1⟩ = 92 from rfl] at this; rw [this]; exact ⟨rfl, rfl⟩
  by_cases e3 : r = 8
  · subst e3; have := hs ⟨98, .int .i32 8, 3⟩ (by simp [shortKV]); rw [show rOf ⟨98, .int .i32 8, 3⟩ = 8 from rfl] at this; rw [this]; exact ⟨rfl, rfl⟩
  by_cases e4 : r = 12
  · subst e4; have := hs ⟨102, .int .i32 12, 4⟩ (by simp [shortKV]); rw [show rOf ⟨102, .int .i32 12, 4⟩ = 12 from rfl] at this; rw [this]; exact ⟨rfl, rfl⟩
  by_cases e5 : r = 10
  · subst e5; have := hs ⟨110, .int .i32 10, 5⟩ (by simp [shortKV]); rw [show rOf ⟨110, .int .i32 10, 5⟩ = 10 from rfl] at this; rw [this]; exact ⟨rfl, rfl⟩
  by_cases e6 : r = 13
  · subst e6; have := hs ⟨114, .int .i32 13, 6⟩ (by simp [shortKV]); rw [show rOf ⟨114, .int .i32 13, 6⟩ = 13 from rfl] at this; rw [this]; exact ⟨rfl, rfl⟩
  by_cases e7 : r = 9
  · subst e7; have := hs ⟨116, .int .i32 9, 7⟩ (by simp [shortKV]); rw [show rOf ⟨116, .int .i32 9, 7⟩ = 9 from rfl] at this; rw [this]; exact ⟨rfl, rfl⟩
  have hn : kget l r = none := h3 r (by
    intro p hp _
    simp only [shortKV, List.mem_cons, List.not_mem_nil, or_false] at hp
    rcases hp with rfl | rfl | rfl | rfl | rfl | rfl | rfl | rfl <;> simp only [rOf] <;> omega)
  have hi : letIs r = false := by simp [letIs, e1, e2, e3, e4, e5, e6, e7]
  rw [hn]; simp [letV, hi, e3, e4, e5, e6, e7]
theorem filt_lt {α : Type} (f g : α → Bool) : ∀ l : List α, (l.filter (fun q => !(f q || g q))).length ≤ (l.filter (fun q => !f q)).length ∧ ((∃ p ∈ l, f p = false ∧ g p = true) → (l.filter (fun q => !(f q || g q))).length < (l.filter (fun q => !f q)).length)
  | [] => ⟨Nat.le_refl _, fun ⟨p, hp, _⟩ => by cases hp⟩
  | a :: l => by
    obtain ⟨h1, h2⟩ := filt_lt f g l
    rw [List.filter_cons, List.filter_cons]
    cases hf : f a <;> cases hg : g a <;> simp only [Bool.or_false, Bool.or_true, Bool.false_or, Bool.true_or, Bool.not_false, Bool.not_true, if_true, if_false, Bool.false_eq_true, List.length_cons]
    · refine ⟨by omega, fun ⟨p, hp, h3, h4⟩ => ?_⟩
      rcases List.mem_cons.1 hp with rfl | hp
      · rw [hg] at h4; cases h4
      · have := h2 ⟨p, hp, h3, h4⟩; omega
    · exact ⟨by omega, fun _ => by omega⟩
    · refine ⟨by omega, fun ⟨p, hp, h3, h4⟩ => ?_⟩
      rcases List.mem_cons.1 hp with rfl | hp
      · rw [hf] at h3; cases h3
      · exact h2 ⟨p, hp, h3, h4⟩
    · refine ⟨by omega, fun ⟨p, hp, h3, h4⟩ => ?_⟩
      rcases List.mem_cons.1 hp with rfl | hp
      · rw [hf] at h3; cases h3
      · exact h2 ⟨p, hp, h3, h4⟩
theorem lets_meas {seen : Array Nat} {p : KV} (hp : p ∈ shortKV) (hn : ¬ seen.contains p.born = true) : (shortKV.filter (fun q => !(seen.push p.born).contains q.born)).length < (shortKV.filter (fun q => !seen.contains q.born)).length := by
  have hc : (fun q : KV => !(seen.push p.born).contains q.born) = fun q => !(seen.contains q.born || q.born == p.born) := by
    funext q; congr 1; rw [Bool.eq_iff_iff]; simp [Array.contains_iff_mem, Array.mem_push]
  rw [hc]
  exact (filt_lt (fun q : KV => seen.contains q.born) (fun q => q.born == p.born) shortKV).2 ⟨p, hp, by simpa using hn, by simp⟩
/-- A figure of sixteen; below 0: none. -/
def hexV (b : UInt8) : Int := if 48 ≤ b.toNat ∧ b.toNat ≤ 57 then b.toNat - 48 else if 97 ≤ b.toNat ∧ b.toNat ≤ 102 then b.toNat - 87 else if 65 ≤ b.toNat ∧ b.toNat ≤ 70 then b.toNat - 55 else -1
def hexOk (l : Str) : Bool := l.all (fun b => decide (0 ≤ hexV b))
def hexVal (l : Str) : Int := l.foldl (fun n b => n * 16 + hexV b) 0
def numP (s : Str) : Int := if len s < 6 then -1 else if Lib.hasPrefix s [92, 117] = false then -1 else if hexOk (Eng.sub s 2 6) then hexVal (Eng.sub s 2 6) else -1
def escP (s : Str) : Int × Int :=
  if len s < 2 then (0, 0)
  else if shIs (byteAt s 1) then (shV (byteAt s 1), 2)
  else if numP s < 0 ∨ (56320 ≤ numP s ∧ numP s < 57344) then (0, 0)
  else if numP s < 55296 ∨ 57344 ≤ numP s then (numP s, 6)
  else if numP (from' s 6) < 56320 ∨ 57344 ≤ numP (from' s 6) then (0, 0)
  else (65536 + (numP s - 55296) * 1024 + numP (from' s 6) - 56320, 12)
theorem hexV_le (b : UInt8) : hexV b ≤ 15 := by unfold hexV; (repeat' split) <;> omega
theorem hexVal_bd : ∀ (l : Str) (n : Int), (∀ b ∈ l, 0 ≤ hexV b) → 0 ≤ n → 0 ≤ l.foldl (fun n b => n * 16 + hexV b) n ∧ l.foldl (fun n b => n * 16 + hexV b) n < (n + 1) * 16 ^ l.length
  | [], n, _, h0 => by simp; omega
  | a :: l, n, h, h0 => by
    have ha := h a (by simp)
    have hb := hexV_le a
    have := hexVal_bd l (n * 16 + hexV a) (fun b hb => h b (by simp [hb])) (by omega)
    rw [List.foldl_cons]
    refine ⟨this.1, Int.lt_of_lt_of_le this.2 ?_⟩
    have h1 : (n + 1) * 16 ^ (a :: l).length = ((n + 1) * 16) * 16 ^ l.length := by rw [List.length_cons, Int.pow_succ, Int.mul_comm (16 ^ l.length) 16, ← Int.mul_assoc]
    rw [h1]
    exact Int.mul_le_mul_of_nonneg_right (by omega) (Int.le_of_lt (Int.pow_pos (by decide : (0 : Int) < 16)))
theorem hexVal_lt {l : Str} (hl : len l = 4) (h : hexOk l = true) : 0 ≤ hexVal l ∧ hexVal l ≤ 65535 := by
  unfold hexOk at h
  have := hexVal_bd l 0 (by simpa [List.all_eq_true] using h) (by omega)
  rw [show l.length = 4 from by unfold len at hl; omega] at this
  unfold hexVal; omega
theorem numP_bd (s : Str) : -1 ≤ numP s ∧ numP s ≤ 65535 ∧ (0 ≤ numP s → 6 ≤ len s) := by
  unfold numP
  split
  · omega
  · split
    · omega
    · split
      · rename_i h1 h2 h3
        unfold hexOk at h3
        have := hexVal_bd (Eng.sub s 2 6) 0 (by simpa [List.all_eq_true] using h3) (by omega)
        have hl : (Eng.sub s 2 6).length = 4 := by have := sub_len (s := s) (i := 2) (j := 6) (by omega) (by omega) (by omega); unfold len at this; omega
        rw [hl] at this
        unfold hexVal; omega
      · omega
theorem escP_bd (s : Str) : 0 ≤ (escP s).1 ∧ (escP s).1 ≤ 1114111 ∧ 0 ≤ (escP s).2 ∧ (escP s).2 ≤ 12 := by
  have h1 := numP_bd s
  have h2 := numP_bd (from' s 6)
  have h3 := byteAt_bd s 1
  have h4 : 0 ≤ shV (byteAt s 1) ∧ shV (byteAt s 1) ≤ 255 := by unfold shV; (repeat' split) <;> omega
  unfold escP
  repeat' split
  all_goals (dsimp only; omega)
/-- C2, from a place on. -/
def unqGo (f : Nat) (s : Str) (i : Int) (acc : List Int) : Str × Int × Int :=
  match f with
  | 0 => ([], len s, 1)
  | f + 1 =>
    if i < len s then
      if runeAt (from' s i) 0 = 34 then (toStr acc, i + 1, 0)
      else if runeAt (from' s i) 0 = 92 then
        if (escP (from' s i)).2 = 0 then ([], i, 1) else unqGo f s (i + (escP (from' s i)).2) (acc ++ Lib.encodeRuneZ (escP (from' s i)).1)
      else if runeAt (from' s i) 0 < 32 ∨ (runeAt (from' s i) 0 = 65533 ∧ runeLen (from' s i) 0 = 1) then ([], i, 1)
      else unqGo f s (i + runeLen (from' s i) 0) (acc ++ Lib.encodeRuneZ (runeAt (from' s i) 0))
    else ([], len s, 1)
def unqP (s : Str) : Str × Int × Int := if Lib.hasPrefix s [34] then unqGo s.length s 1 [] else ([], 0, 1)
theorem unqGo_eq {f : Nat} {s : Str} {i : Int} {acc : List Int} (hf : (len s - i).toNat ≤ f) (h1 : i < len s) : unqGo f s i acc =
    (if runeAt (from' s i) 0 = 34 then (toStr acc, i + 1, 0)
      else if runeAt (from' s i) 0 = 92 then
        if (escP (from' s i)).2 = 0 then ([], i, 1) else unqGo (f - 1) s (i + (escP (from' s i)).2) (acc ++ Lib.encodeRuneZ (escP (from' s i)).1)
      else if runeAt (from' s i) 0 < 32 ∨ (runeAt (from' s i) 0 = 65533 ∧ runeLen (from' s i) 0 = 1) then ([], i, 1)
      else unqGo (f - 1) s (i + runeLen (from' s i) 0) (acc ++ Lib.encodeRuneZ (runeAt (from' s i) 0))) := by
  cases f with
  | zero => omega
  | succ f => conv => lhs; unfold unqGo
              rw [if_pos h1]; rfl
theorem unqGo_end {f : Nat} {s : Str} {i : Int} {acc : List Int} (h1 : ¬ i < len s) : unqGo f s i acc = ([], len s, 1) := by
  cases f with
  | zero => rfl
  | succ f => unfold unqGo; rw [if_neg h1]
theorem lets_start : Lets #[] [] := ⟨by simp, fun p _ h => by simp at h, fun r _ => rfl⟩
def hexD (n : Int) : Int := if n < 10 then 48 + n else 87 + n
/-- A rune, written. -/
def qOne (r : Int) : Str := if letIs r then [92, (letV r).toNat.toUInt8] else if r < 32 then [92, 117, 48, 48, (hexD (r / 16)).toNat.toUInt8, (hexD (r % 16)).toNat.toUInt8] else Lib.encodeRune r
theorem rlen_pos (s : Str) (p : Int) (h0 : 0 ≤ p) (h1 : p < len s) : 1 ≤ runeLen s p ∧ p + runeLen s p ≤ len s := by
  have hs : (ByteArray.mk ⟨s⟩).size = s.length := rfl
  have h2 := Lib.decode_width_pos ⟨⟨s⟩⟩ p.toNat (by rw [hs]; unfold len at h1; omega)
  have h3 : (Utf8.decode ⟨⟨s⟩⟩ p.toNat).2 ≤ (ByteArray.mk ⟨s⟩).size - p.toNat := by rw [Lib.decode_at]; exact Lib.decodeN_width_le _ _ _ _ _ (by rw [hs]; unfold len at h1; omega)
  rw [hs] at h3
  unfold runeLen len at *; omega
def qFrom (s : Str) (p : Int) : Str := if h : 0 ≤ p ∧ p < len s then qOne (runeAt s p) ++ qFrom s (p + runeLen s p) else []
termination_by (len s - p).toNat
decreasing_by have := rlen_pos s p h.1 h.2; omega
def quoteP (s : Str) : Str := 34 :: qFrom s 0 ++ [34]
theorem qFrom_step {s : Str} {p : Int} (h0 : 0 ≤ p) (h1 : p < len s) : qFrom s p = qOne (runeAt s p) ++ qFrom s (p + runeLen s p) := by rw [qFrom, dif_pos ⟨h0, h1⟩]
theorem qFrom_end {s : Str} {p : Int} (h1 : ¬ p < len s) : qFrom s p = [] := by rw [qFrom, dif_neg (by omega)]
theorem runeAt_bd (s : Str) (p : Int) : 0 ≤ runeAt s p ∧ runeAt s p ≤ 1114111 := by have := Lib.rune_le ⟨⟨s⟩⟩ p.toNat; unfold runeAt; omega
theorem letV_bd (r : Int) : 0 ≤ letV r ∧ letV r ≤ 255 := by
  unfold letV
  (repeat' split) <;> first | omega | skip
  rename_i h; unfold letIs at h; simp only [Bool.or_eq_true, beq_iff_eq] at h; omega
theorem q_let {r : Int} (h : letIs r = true) : ints (qOne r) = [92, letV r] := by
  have := letV_bd r
  unfold qOne; rw [if_pos h]; simp [ints]; omega
theorem q_low {r : Int} (h : letIs r = false) (h2 : r < 32) (h3 : 0 ≤ r) : ints (qOne r) = ints [92, 117, 48, 48] ++ ints (from' [49, (hexD (r / 16)).toNat.toUInt8, (hexD (r % 16)).toNat.toUInt8] 1) := by
  unfold qOne; rw [if_neg (by rw [h]; simp), if_pos h2]; rfl
theorem q_rune {r : Int} (h : letIs r = false) (h2 : ¬ r < 32) : ints (qOne r) = Lib.encodeRuneZ r := by
  unfold qOne; rw [if_neg (by rw [h]; simp), if_neg h2]
  unfold ints Lib.encodeRune; rw [List.map_map]
  conv => rhs; rw [← List.map_id (Lib.encodeRuneZ r)]
  apply List.map_congr_left
  intro x hx
  have := Lib.encodeRuneZ_byte r x hx
  simp; omega
end Go.Eng
namespace Go.Eng
open Go.RowKit

def isBlankB (b : UInt8) : Bool := isBlank (b.toNat : Int)
/-- The place behind blanks. -/
def blankTo (s : Str) (i : Int) : Int := i + len ((from' s i).takeWhile isBlankB)
theorem blankTo_bd (s : Str) (i : Int) (h0 : 0 ≤ i) (h1 : i ≤ len s) : i ≤ blankTo s i ∧ blankTo s i ≤ len s := by
  have h2 := from_len s i h0 h1
  have h3 := (List.takeWhile_sublist isBlankB (l := from' s i)).length_le
  unfold blankTo len at *; omega
theorem sub_snoc {s : Str} {k : Int} (h0 : 0 ≤ k) (h1 : k < len s) : ∃ b, Eng.sub s 0 (k + 1) = Eng.sub s 0 k ++ [b] ∧ (b.toNat : Int) = byteAt s k := by
  have h : k.toNat < s.length := by unfold len at h1; omega
  refine ⟨s[k.toNat], ?_, by simp [byteAt, h]⟩
  unfold Eng.sub
  simp only [Int.toNat_zero, List.drop_zero, Nat.sub_zero]
  rw [show (k + 1).toNat = k.toNat + 1 from by omega, List.take_succ_eq_append_getElem h]
theorem u8_eq48 {b : UInt8} : (([48] : Str).contains b) = true ↔ (b.toNat : Int) = 48 := by
  simp only [List.contains_cons, List.contains_nil, Bool.or_false, beq_iff_eq]
  constructor
  · rintro rfl; rfl
  · intro h; apply UInt8.toNat_inj.1; show b.toNat = 48; omega
theorem last_split {s : Str} (h : 0 < len s) : ∃ b, s = Eng.sub s 0 (len s - 1) ++ [b] ∧ (b.toNat : Int) = byteAt s (len s - 1) := by
  obtain ⟨b, h1, h2⟩ := sub_snoc (s := s) (k := len s - 1) (by omega) (by omega)
  rw [show len s - 1 + 1 = len s from by omega, sub_all s (len s) (by omega)] at h1
  exact ⟨b, h1, h2⟩
end Go.Eng
namespace Go.Eng

/-- The document's rune, of bytes alone. -/
def runeN (n x0 x1 x2 x3 : Nat) : Nat :=
  if x0 < 128 then 1
  else if 194 ≤ x0 ∧ x0 < 224 ∧ (1 < n ∧ 128 ≤ x1 ∧ x1 < 192) then 2
  else if 224 ≤ x0 ∧ x0 < 240 ∧ (1 < n ∧ 128 ≤ x1 ∧ x1 < 192) ∧ (2 < n ∧ 128 ≤ x2 ∧ x2 < 192) then
    if (x0 = 224 ∧ x1 < 160) ∨ (x0 = 237 ∧ 160 ≤ x1) then 0 else 3
  else if 240 ≤ x0 ∧ x0 < 245 ∧ (1 < n ∧ 128 ≤ x1 ∧ x1 < 192) ∧ (2 < n ∧ 128 ≤ x2 ∧ x2 < 192) ∧ (3 < n ∧ 128 ≤ x3 ∧ x3 < 192) then
    if (x0 = 240 ∧ x1 < 144) ∨ (x0 = 244 ∧ 144 ≤ x1) then 0 else 4
  else 0
/-- What a rune of so many bytes is decoded as. -/
def DecAs (n x0 x1 x2 x3 k r l : Nat) : Prop :=
  (k = 0 ∧ r = 65533 ∧ l = 1 ∧ 128 ≤ x0) ∨ (k = 1 ∧ r = x0 ∧ l = 1 ∧ x0 < 128) ∨
  (k = 2 ∧ l = 2 ∧ 2 ≤ n ∧ 128 ≤ r ∧ r ≤ 2047 ∧ 192 + r / 64 = x0 ∧ 128 + r % 64 = x1) ∨
  (k = 3 ∧ l = 3 ∧ 3 ≤ n ∧ ((2048 ≤ r ∧ r < 55296) ∨ (57343 < r ∧ r ≤ 65535)) ∧ 224 + r / 4096 = x0 ∧ 128 + r / 64 % 64 = x1 ∧ 128 + r % 64 = x2) ∨
  (k = 4 ∧ l = 4 ∧ 4 ≤ n ∧ 65536 ≤ r ∧ r ≤ 1114111 ∧ 240 + r / 262144 = x0 ∧ 128 + r / 4096 % 64 = x1 ∧ 128 + r / 64 % 64 = x2 ∧ 128 + r % 64 = x3)
set_option maxHeartbeats 4000000 in
set_option maxRecDepth 100000 in
theorem runeN_dec (n x0 x1 x2 x3 : Nat) (hn : 1 ≤ n) (h0 : x0 < 256) (h1 : x1 < 256) (h2 : x2 < 256) (h3 : x3 < 256) : DecAs n x0 x1 x2 x3 (runeN n x0 x1 x2 x3) (Lib.decodeN n x0 x1 x2 x3).1 (Lib.decodeN n x0 x1 x2 x3).2 := by
  unfold runeN Lib.decodeN DecAs
  repeat' split
  all_goals first | exact .inl ⟨rfl, rfl, rfl, by omega⟩ | exact .inr (.inl ⟨rfl, rfl, rfl, by omega⟩) | exact .inr (.inr (.inl ⟨rfl, rfl, by omega, by dsimp only; omega, by dsimp only; omega, by dsimp only; omega, by dsimp only; omega⟩)) | exact .inr (.inr (.inr (.inl ⟨rfl, rfl, by omega, by dsimp only; omega, by dsimp only; omega, by dsimp only; omega, by dsimp only; omega⟩))) | exact .inr (.inr (.inr (.inr ⟨rfl, rfl, by omega, by dsimp only; omega, by dsimp only; omega, by dsimp only; omega, by dsimp only; omega, by dsimp only; omega, by dsimp only; omega⟩))) | (exfalso; omega)
end Go.Eng
namespace Go.Eng
open Go.RowKit

theorem byteAt_nat (s : Str) (i : Int) (h0 : 0 ≤ i) (j : Nat) : byteAt s (i + j) = ((s.getD (i.toNat + j) 0).toNat : Int) := by
  unfold byteAt; rw [show (i + j).toNat = i.toNat + j from by omega]
theorem getD_from (s : Str) (i : Int) (j : Nat) : (from' s i).getD j 0 = s.getD (i.toNat + j) 0 := by
  unfold from'; simp [List.getD_eq_getElem?_getD, List.getElem?_drop]
theorem get!_mk (l : Str) (j : Nat) : (ByteArray.mk ⟨l⟩).get! j = l.getD j 0 := by
  show (Array.mk l)[j]! = _
  simp [List.getD_eq_getElem?_getD]
  rfl
theorem from_from {α : Type} (s : List α) (i j : Int) (h0 : 0 ≤ i) (h1 : 0 ≤ j) : from' (from' s i) j = from' s (i + j) := by
  unfold from'; rw [List.drop_drop, show (i + j).toNat = i.toNat + j.toNat from by omega]
theorem byteAt_from (s : Str) (i j : Int) (h0 : 0 ≤ i) (h1 : 0 ≤ j) : byteAt (from' s i) j = byteAt s (i + j) := by
  unfold byteAt; rw [getD_from, show (i + j).toNat = i.toNat + j.toNat from by omega]
theorem decode_from (s : Str) (i : Int) (h0 : 0 ≤ i) :
    Utf8.decode ⟨⟨from' s i⟩⟩ 0 = Lib.decodeN (s.length - i.toNat) (s.getD i.toNat 0).toNat (s.getD (i.toNat + 1) 0).toNat (s.getD (i.toNat + 2) 0).toNat (s.getD (i.toNat + 3) 0).toNat := by
  rw [Lib.decode_at]
  simp only [get!_mk, getD_from, Nat.zero_add, Nat.add_zero, Nat.sub_zero]
  congr 1
  show (from' s i).length = _
  unfold from'; rw [List.length_drop]
/-- Ranging over a text, and decoding what stands from a place on, are the same. -/
theorem decode_same (s : Str) (i : Int) (h0 : 0 ≤ i) : Utf8.decode ⟨⟨s⟩⟩ i.toNat = Utf8.decode ⟨⟨from' s i⟩⟩ 0 := by
  rw [decode_from s i h0, Lib.decode_at]
  simp only [get!_mk]; rfl
theorem runeAt_from (s : Str) (i : Int) (h0 : 0 ≤ i) : runeAt (from' s i) 0 = runeAt s i := by unfold runeAt; rw [decode_same s i h0]; rfl
theorem runeLen_from (s : Str) (i : Int) (h0 : 0 ≤ i) : runeLen (from' s i) 0 = runeLen s i := by unfold runeLen; rw [decode_same s i h0]; rfl
theorem sub_bytes2 {s : Str} {i : Int} (h0 : 0 ≤ i) : ∀ n : Nat, i + n ≤ len s → Eng.sub s i (i + n) = (List.range n).map (fun j => s.getD (i.toNat + j) 0) := by
  intro n h
  unfold Eng.sub
  apply List.ext_getElem?
  intro k
  rw [show (i + n).toNat - i.toNat = n from by omega]
  unfold len at h
  by_cases hk : k < n
  · rw [List.getElem?_take, if_pos hk, List.getElem?_drop]
    have : i.toNat + k < s.length := by omega
    simp [hk, this]
  · rw [List.getElem?_take, if_neg hk]
    simp [hk]
theorem u8_of (b : UInt8) (x : Int) (h : x = (b.toNat : Int)) : UInt8.ofNat x.toNat = b := by subst h; simp
theorem rune_N {s : Str} {i : Int} (h0 : 0 ≤ i) (h1 : i < len s) : rune s i = (runeN (s.length - i.toNat) (s.getD i.toNat 0).toNat (s.getD (i.toNat + 1) 0).toNat (s.getD (i.toNat + 2) 0).toNat (s.getD (i.toNat + 3) 0).toNat : Nat) := by
  have e0 : byteAt s i = ((s.getD i.toNat 0).toNat : Int) := rfl
  have e1 : byteAt s (i + 1) = ((s.getD (i.toNat + 1) 0).toNat : Int) := byteAt_nat s i h0 1
  have e2 : byteAt s (i + 2) = ((s.getD (i.toNat + 2) 0).toNat : Int) := byteAt_nat s i h0 2
  have e3 : byteAt s (i + 3) = ((s.getD (i.toNat + 3) 0).toNat : Int) := byteAt_nat s i h0 3
  have hlen : len s = (s.length : Int) := rfl
  unfold rune cont runeN
  simp only [e0, e1, e2, e3]
  simp only [Bool.and_eq_true, Bool.or_eq_true, decide_eq_true_eq, beq_iff_eq]
  repeat' split
  all_goals first | rfl | (exfalso; omega)
/-- A rune that is valid is what Go decodes; its bytes are what stands there. -/
theorem rune_dec {s : Str} {i : Int} (h0 : 0 ≤ i) (h1 : i < len s) :
    (rune s i = 0 ∧ runeAt s i = 65533 ∧ runeLen s i = 1 ∧ 128 ≤ byteAt s i) ∨
    (1 ≤ rune s i ∧ runeLen s i = rune s i ∧ ¬ (runeAt s i = 65533 ∧ runeLen s i = 1) ∧ toStr (Lib.encodeRuneZ (runeAt s i)) = Eng.sub s i (i + rune s i) ∧ (byteAt s i < 128 → rune s i = 1 ∧ runeAt s i = byteAt s i) ∧ (128 ≤ byteAt s i → 128 ≤ runeAt s i)) := by
  have hlen : len s = (s.length : Int) := rfl
  have hrn := rune_N h0 h1
  have hle := rune_le s i h1
  have e0 : byteAt s i = ((s.getD i.toNat 0).toNat : Int) := rfl
  have s1 := sub_bytes2 (s := s) h0 1
  have s2 := sub_bytes2 (s := s) h0 2
  have s3 := sub_bytes2 (s := s) h0 3
  have s4 := sub_bytes2 (s := s) h0 4
  simp only [List.range_succ, List.range_zero, List.nil_append, List.map_append, List.map_cons, List.map_nil, List.cons_append, Nat.add_zero] at s1 s2 s3 s4
  have hr : runeAt s i = ((Lib.decodeN (s.length - i.toNat) (s.getD i.toNat 0).toNat (s.getD (i.toNat + 1) 0).toNat (s.getD (i.toNat + 2) 0).toNat (s.getD (i.toNat + 3) 0).toNat).1 : Nat) := by
    unfold runeAt; rw [decode_same s i h0, decode_from s i h0]
  have hl : runeLen s i = ((Lib.decodeN (s.length - i.toNat) (s.getD i.toNat 0).toNat (s.getD (i.toNat + 1) 0).toNat (s.getD (i.toNat + 2) 0).toNat (s.getD (i.toNat + 3) 0).toNat).2 : Nat) := by
    unfold runeLen; rw [decode_same s i h0, decode_from s i h0]
  have hD := runeN_dec (s.length - i.toNat) (s.getD i.toNat 0).toNat (s.getD (i.toNat + 1) 0).toNat (s.getD (i.toNat + 2) 0).toNat (s.getD (i.toNat + 3) 0).toNat (by omega) (UInt8.toNat_lt _) (UInt8.toNat_lt _) (UInt8.toNat_lt _) (UInt8.toNat_lt _)
  generalize Lib.decodeN (s.length - i.toNat) (s.getD i.toNat 0).toNat (s.getD (i.toNat + 1) 0).toNat (s.getD (i.toNat + 2) 0).toNat (s.getD (i.toNat + 3) 0).toNat = D at *
  generalize runeN (s.length - i.toNat) (s.getD i.toNat 0).toNat (s.getD (i.toNat + 1) 0).toNat (s.getD (i.toNat + 2) 0).toNat (s.getD (i.toNat + 3) 0).toNat = K at *
  obtain ⟨r, l⟩ := D
  dsimp only at hD hr hl
  rcases hD with ⟨rfl, hd, hx⟩ | ⟨rfl, hd, hx⟩ | ⟨rfl, hd, hx⟩ | ⟨rfl, hd, hx⟩ | ⟨rfl, hd, hx⟩
  · left; refine ⟨by omega, by omega, by omega, by omega⟩
  · right
    refine ⟨by omega, by omega, by omega, ?_, fun _ => ⟨by omega, by omega⟩, by omega⟩
    rw [hr, hrn, Lib.encodeRuneZ_one (by omega) (by omega)]
    rw [show ((1 : Nat) : Int) = 1 from rfl] at *
    rw [s1 (by omega)]
    simp only [toStr, List.map_cons, List.map_nil]
    rw [u8_of (s.getD i.toNat 0) _ (by omega)]
  · right
    refine ⟨by omega, by omega, by omega, ?_, by omega, by omega⟩
    rw [hr, hrn, Lib.encodeRuneZ_two (by omega) (by omega)]
    have := s2 (by omega)
    refine Eq.trans ?_ this.symm
    simp only [toStr, List.map_cons, List.map_nil]
    rw [u8_of (s.getD i.toNat 0) _ (by omega), u8_of (s.getD (i.toNat + 1) 0) _ (by omega)]
  · right
    refine ⟨by omega, by omega, by omega, ?_, by omega, by omega⟩
    rw [hr, hrn, Lib.encodeRuneZ_three (by omega)]
    have := s3 (by omega)
    refine Eq.trans ?_ this.symm
    simp only [toStr, List.map_cons, List.map_nil]
    rw [u8_of (s.getD i.toNat 0) _ (by omega), u8_of (s.getD (i.toNat + 1) 0) _ (by omega), u8_of (s.getD (i.toNat + 2) 0) _ (by omega)]
  · right
    refine ⟨by omega, by omega, by omega, ?_, by omega, by omega⟩
    rw [hr, hrn, Lib.encodeRuneZ_four (by omega) (by omega)]
    have := s4 (by omega)
    refine Eq.trans ?_ this.symm
    simp only [toStr, List.map_cons, List.map_nil]
    rw [u8_of (s.getD i.toNat 0) _ (by omega), u8_of (s.getD (i.toNat + 1) 0) _ (by omega), u8_of (s.getD (i.toNat + 2) 0) _ (by omega), u8_of (s.getD (i.toNat + 3) 0) _ (by omega)]
end Go.Eng
namespace Go.Eng
open Go.RowKit

def dropB (s : Str) : Str := s.dropWhile (([32, 9, 10, 13] : Str).contains ·)
def dropN (s : Str) : Str := s.dropWhile (([48, 49, 50, 51, 52, 53, 54, 55, 56, 57, 43, 45, 46, 101, 69] : Str).contains ·)
def isNumB (b : UInt8) : Bool := ([48, 49, 50, 51, 52, 53, 54, 55, 56, 57, 43, 45, 46, 101, 69] : Str).contains b
theorem drop_take {α : Type} (p : α → Bool) : ∀ l : List α, l.dropWhile p = l.drop (l.takeWhile p).length
  | [] => rfl
  | a :: l => by
    rw [List.dropWhile_cons, List.takeWhile_cons]
    split
    · rw [List.length_cons, List.drop_succ_cons]; exact drop_take p l
    · rfl
theorem contains_blank (b : UInt8) : ([32, 9, 10, 13] : Str).contains b = isBlankB b := by
  unfold isBlankB isBlank
  rw [Bool.eq_iff_iff]
  simp only [List.contains_cons, List.contains_nil, Bool.or_false, Bool.or_eq_true, beq_iff_eq]
  have h : ∀ n : Nat, n < 256 → (b = UInt8.ofNat n ↔ (b.toNat : Int) = n) := fun n hn => by
    rw [← UInt8.toNat_inj]; simp [Nat.mod_eq_of_lt hn]; omega
  have h1 := h 32 (by omega)
  have h2 := h 9 (by omega)
  have h3 := h 10 (by omega)
  have h4 := h 13 (by omega)
  have e1 : b = 32 ↔ (b.toNat : Int) = 32 := h1
  have e2 : b = 9 ↔ (b.toNat : Int) = 9 := h2
  have e3 : b = 10 ↔ (b.toNat : Int) = 10 := h3
  have e4 : b = 13 ↔ (b.toNat : Int) = 13 := h4
  rw [e1, e2, e3, e4]; omega
theorem dropB_from (s : Str) (i : Int) (h0 : 0 ≤ i) : dropB (from' s i) = from' s (blankTo s i) := by
  unfold dropB blankTo
  rw [show (fun b => ([32, 9, 10, 13] : Str).contains b) = isBlankB from funext contains_blank, drop_take, ← from_from s i _ h0 (len_nonneg _)]
  unfold from' len
  rw [Int.toNat_natCast]
def runN (s : Str) : Str := Eng.sub s 0 (len s - len (dropN s))
theorem runN_take (s : Str) : runN s = s.takeWhile isNumB := by
  unfold runN dropN
  rw [show (fun b => ([48, 49, 50, 51, 52, 53, 54, 55, 56, 57, 43, 45, 46, 101, 69] : Str).contains b) = isNumB from rfl, drop_take]
  have h := (List.takeWhile_prefix isNumB (l := s)).length_le
  unfold Eng.sub len
  rw [List.length_drop]
  have e : ((s.length : Int) - ((s.length - (s.takeWhile isNumB).length : Nat) : Int)).toNat - Int.toNat 0 = (s.takeWhile isNumB).length := by omega
  rw [e]
  simp only [Int.toNat_zero, List.drop_zero]
  exact (List.prefix_iff_eq_take.1 (List.takeWhile_prefix isNumB)).symm
theorem dropN_len (s : Str) : 0 ≤ len (dropN s) ∧ len (dropN s) ≤ len s := by
  have := (List.dropWhile_sublist (([48, 49, 50, 51, 52, 53, 54, 55, 56, 57, 43, 45, 46, 101, 69] : Str).contains ·) (l := s)).length_le
  unfold dropN len; omega
theorem dropB_len (s : Str) : 0 ≤ len (dropB s) ∧ len (dropB s) ≤ len s := by
  have := (List.dropWhile_sublist (([32, 9, 10, 13] : Str).contains ·) (l := s)).length_le
  unfold dropB len; omega
theorem from_len' {α : Type} (s : List α) (i : Int) (h0 : 0 ≤ i) : len (from' s i) = if i ≤ len s then len s - i else 0 := by
  unfold from' len; rw [List.length_drop]; split <;> omega
theorem escP_le (s : Str) : 0 ≤ (escP s).2 ∧ (escP s).2 ≤ len s ∧ ((escP s).2 ≠ 0 → 2 ≤ (escP s).2) := by
  have h1 := numP_bd s
  have h2 := numP_bd (from' s 6)
  have h3 := from_len' s 6 (by omega)
  have h4 := len_nonneg s
  unfold escP
  repeat' split
  all_goals (dsimp only; try (split at h3); all_goals omega)
theorem runeLen_bd {s : Str} {i : Int} (h0 : 0 ≤ i) (h1 : i < len s) : 1 ≤ runeLen s i ∧ i + runeLen s i ≤ len s := by
  have h2 := rune_le s i h1
  rcases rune_dec h0 h1 with ⟨_, _, h3, _⟩ | ⟨h3, h4, _⟩ <;> omega
theorem unqGo_bd {f : Nat} {s : Str} {i : Int} {acc : List Int} (h0 : 0 ≤ i) (h1 : i ≤ len s) :
    0 ≤ (unqGo f s i acc).2.1 ∧ (unqGo f s i acc).2.1 ≤ len s ∧ ((unqGo f s i acc).2.2 = 0 → i < (unqGo f s i acc).2.1) ∧ ((unqGo f s i acc).2.2 = 0 ∨ (unqGo f s i acc).2.2 = 1) := by
  induction f generalizing i acc with
  | zero => unfold unqGo; dsimp only; omega
  | succ f ih =>
    unfold unqGo
    split
    · rename_i hlt
      have hf := from_len s i h0 h1
      split
      · dsimp only; omega
      · split
        · have he := escP_le (from' s i)
          split
          · dsimp only; omega
          · have := ih (i := i + (escP (from' s i)).2) (acc := acc ++ Lib.encodeRuneZ (escP (from' s i)).1) (by omega) (by omega)
            omega
        · split
          · dsimp only; omega
          · have hb := runeLen_bd h0 hlt
            rw [runeLen_from s i h0]
            have := ih (i := i + runeLen s i) (acc := acc ++ Lib.encodeRuneZ (runeAt (from' s i) 0)) (by omega) (by omega)
            omega
    · dsimp only; omega
theorem hasPrefix_len {s p : Str} (h : Lib.hasPrefix s p = true) : len p ≤ len s := by
  have := (List.isPrefixOf_iff_prefix.1 h).length_le
  unfold len; omega
theorem unqP_bd (s : Str) : 0 ≤ (unqP s).2.1 ∧ (unqP s).2.1 ≤ len s ∧ ((unqP s).2.2 = 0 → 2 ≤ (unqP s).2.1) ∧ ((unqP s).2.2 = 0 ∨ (unqP s).2.2 = 1) := by
  unfold unqP
  split
  · rename_i h
    have h1 : (1 : Int) ≤ len s := hasPrefix_len h
    have := unqGo_bd (f := s.length) (s := s) (i := 1) (acc := []) (by omega) h1
    omega
  · have := len_nonneg s; dsimp only; omega
end Go.Eng
