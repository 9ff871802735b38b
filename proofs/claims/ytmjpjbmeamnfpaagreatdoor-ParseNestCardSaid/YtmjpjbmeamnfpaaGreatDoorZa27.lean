/-
  BRACKETS IN BRACKETS are parsed, as many as may be. Plain: no program in it.
  loupelaw09: alive, ParseNest.
  The closed facts of the row, one by one: each in a declaration of its own (the kernel's memory).
-/
import Derived.Test.YtmjpjbmeamnfpaaGreatDoorZa26
import Derived.Test.YtmjpjbmeamnfpaaGreatDoorZa4
import Derived.Laws.BitsLemmas
import Derived.Test.YtmjpjbmeamnfpaaGreatDoorZa3
import Derived.Test.YtmjpjbmeamnfpaaGreatDoorProg
import Derived.Test.YtmjpjbmeamnfpaaGreatDoorZa11
import Derived.Test.YtmjpjbmeamnfpaaGreatDoorZa5
import Derived.JoinedCond
set_option linter.unusedVariables false
set_option linter.unusedSimpArgs false
namespace Go.Eng
open Go.RowKit

/-- What stands from a place on, in a row of tokens. -/
def TA (l : List Tk) (j : Int) (u : List Tk) : Prop := 0 ≤ j ∧ from' l j = u
theorem TA.add {l : List Tk} {j : Int} {u r : List Tk} (h : TA l j (u ++ r)) : TA l (j + len u) r := by
  obtain ⟨h0, h2⟩ := h
  have h3 := len_nonneg u
  refine ⟨by omega, ?_⟩
  rw [← from_from l j (len u) h0 h3, h2]
  unfold from' len; simp
theorem TA.one {l : List Tk} {j : Int} {t : Tk} {r : List Tk} (h : TA l j (t :: r)) : TA l (j + 1) r := TA.add (u := [t]) h
theorem TA.at {l : List Tk} {j : Int} {t : Tk} {r : List Tk} (h : TA l j (t :: r)) : at' l j = t := by
  obtain ⟨h0, h1⟩ := h
  unfold at'
  have h2 : (l.drop j.toNat)[0]? = some t := by
    have : from' l j = l.drop j.toNat := rfl
    rw [← this, h1]; rfl
  rw [List.getElem?_drop, Nat.add_zero] at h2
  rw [List.getD_eq_getElem?_getD, h2]; rfl
theorem TA.isM {l : List Tk} {j : Int} {t : Tk} {r : List Tk} (h : TA l j (t :: r)) (m : Str) : isM l j m = (t.kind == 1 && t.s == m) := by unfold Eng.isM; rw [h.at]
theorem TA.isWd {l : List Tk} {j : Int} {t : Tk} {r : List Tk} (h : TA l j (t :: r)) (m : Str) : isWd l j m = (t.kind == 2 && t.s == m) := by unfold Eng.isWd; rw [h.at]
theorem TA.pos {l : List Tk} {j : Int} {t : Tk} {r : List Tk} (h : TA l j (t :: r)) : (at' l j).pos = t.pos := by rw [h.at]
theorem TA.lt {l : List Tk} {j : Int} {t : Tk} {r : List Tk} (h : TA l j (t :: r)) : j < len l := by
  obtain ⟨h0, h1⟩ := h
  rcases Int.lt_or_le j (len l) with h | h
  · exact h
  · exfalso
    have : from' l j = l.drop j.toNat := rfl
    rw [this, List.drop_eq_nil_of_le (by unfold len at h; omega)] at h1; cases h1
/-- A token behind which nothing goes on. -/
def stopT (t : Tk) : Prop := t.kind = 6 ∨ t.kind = 1 ∧ (t.s = [41] ∨ t.s = [93] ∨ t.s = [125])
theorem stopT.no {t : Tk} (h : stopT t) : t.kind ≠ 3 ∧ (t.kind == 1 && t.s == [91]) = false ∧ (t.kind == 1 && t.s == [124]) = false := by
  rcases h with h | ⟨h, h2⟩
  · rw [h]; exact ⟨by decide, rfl, rfl⟩
  · rw [h]
    rcases h2 with h2 | h2 | h2 <;> rw [h2] <;> exact ⟨by decide, rfl, rfl⟩
theorem sufs_stop {l : List Tk} {j : Int} {t : Tk} {r : List Tk} (h : TA l j (t :: r)) (ht : stopT t) (xs : List Tf) : sufsA l.length l xs j = .ok (pipedF xs) j := by
  have hl := h.lt
  have h0 := h.1
  obtain ⟨n, hn⟩ : ∃ n, l.length = n + 1 := ⟨l.length - 1, by unfold len at hl; omega⟩
  rw [hn, sufsA, h.at, h.isM, if_neg (by rw [ht.no.2.1]; intro h; rcases h with h | h; exact ht.no.1 h; cases h)]
theorem fil_pos {q : Str → Str} {f : Nat} {l : List Tk} {d i j : Int} {x : Tf} {t : Tk} {r : List Tk} (hp : posA q (f + 1) l d i = .ok x j) (h : TA l j (t :: r)) (ht : stopT t) : filA q (f + 2) l d i = .ok x j := by
  rw [filA, hp]
  show pipA q (f + 1) l d [x] j = _
  rw [pipA, h.isM, ht.no.2.2]; rfl
theorem fil_er {q : Str → Str} {f : Nat} {l : List Tk} {d i e p : Int} (hp : posA q f l d i = .er e p) : filA q (f + 1) l d i = .er e p := by rw [filA, hp]; rfl
/-- The filter. -/
def nestG (kd : Int) : Nat → Tf
  | 0 => .mk (tmF 0) []
  | k + 1 => if kd = 0 then nestG kd k else if kd = 1 then .mk (tmF 9) [nestG kd k] else if kd = 2 then .mk (tmF 8) [(nestG kd k).named [97]] else .mk (tmF 5) [nestG kd k]
theorem sht_stop (kd : Int) (i : Int) : stopT (mkT (shtS kd) i) := by
  refine .inr ⟨rfl, ?_⟩
  show shtS kd = _ ∨ shtS kd = _ ∨ shtS kd = _
  unfold shtS
  split
  · exact .inl rfl
  split
  · exact .inr (.inl rfl)
  split
  · exact .inr (.inr rfl)
  · exact .inl rfl
theorem nestK_len (kd : Int) (k : Nat) (i : Int) : len (nestK kd k i) = if k = 0 then 1 else len (opnT kd i) + len (nestK kd (k - 1) (i + len (opnS kd))) + 1 := by
  cases k with
  | zero => rfl
  | succ k => rw [nestK, len_app, len_app, if_neg (by omega), Nat.add_sub_cancel]; rw [len_cons, len_nil]; omega
theorem nestK_head (kd : Int) (k : Nat) (i : Int) (r : List Tk) : ∃ t u, nestK kd k i ++ r = t :: u ∧ (t.kind = 1 ∧ (t.s = [46] ∨ t.s = [40] ∨ t.s = [91] ∨ t.s = [123]) ∨ t.kind = 2) := by
  cases k with
  | zero => exact ⟨_, _, rfl, .inl ⟨rfl, .inl rfl⟩⟩
  | succ k =>
    unfold nestK opnT
    split
    · exact ⟨_, _, rfl, .inl ⟨rfl, .inr (.inl rfl)⟩⟩
    split
    · exact ⟨_, _, rfl, .inl ⟨rfl, .inr (.inr (.inl rfl))⟩⟩
    split
    · exact ⟨_, _, rfl, .inl ⟨rfl, .inr (.inr (.inr rfl))⟩⟩
    · exact ⟨_, _, rfl, .inr rfl⟩
/-- What is found at a depth. -/
def Found (q : Str → Str) (l : List Tk) (kd d j p : Int) (k f : Nat) : Prop :=
  (d + k ≤ 64 → posA q f l d j = .ok (nestG kd k) (j + len (nestK kd k p))) ∧
  (64 < d + k → posA q f l d j = .er 3 (p + len (opnS kd) * (64 - d) + if kd = 3 then 3 else 0))
theorem fil_found {q : Str → Str} {l : List Tk} {kd d j p : Int} {k f : Nat} {t : Tk} {r : List Tk} (h : Found q l kd d j p k (f + 1)) (ha : TA l (j + len (nestK kd k p)) (t :: r)) (ht : stopT t) :
    (d + k ≤ 64 → filA q (f + 2) l d j = .ok (nestG kd k) (j + len (nestK kd k p))) ∧ (64 < d + k → filA q (f + 2) l d j = .er 3 (p + len (opnS kd) * (64 - d) + if kd = 3 then 3 else 0)) :=
  ⟨fun h1 => fil_pos (h.1 h1) ha ht, fun h1 => fil_er (h.2 h1)⟩
theorem call_deep {l : List Tk} {d i p : Int} {X : Int → PR Tf} {u : List Tk} (h : TA l i (mkT [40] p :: u)) (hd : 64 ≤ d) : callA l d i X = .er 3 p := by
  have hm : isM l i [40] = true := by rw [h.isM]; rfl
  unfold callA openA
  rw [hm, if_pos (by simp [hd])]
  show PR.er 3 (at' l i).pos = _
  rw [h.pos]; rfl
theorem ncall_er {l : List Tk} {d i p e p2 : Int} {X : Int → PR Tf} {u : List Tk} (h : TA l i (mkT [40] p :: u)) (hd : d < 64) (hx : X (i + 1) = .er e p2) : callA l d i X = .er e p2 := by
  have hm : isM l i [40] = true := by rw [h.isM]; rfl
  unfold callA openA needA
  rw [hm, if_neg (by simp; omega), if_pos rfl]
  show (X (i + 1)).bind _ = _
  rw [hx]; rfl
theorem ncall_ok {l : List Tk} {d i j p p2 : Int} {x : Tf} {X : Int → PR Tf} {u u2 : List Tk} (h : TA l i (mkT [40] p :: u)) (hd : d < 64) (hx : X (i + 1) = .ok x j) (h2 : TA l j (mkT [41] p2 :: u2)) : callA l d i X = .ok x (j + 1) := by
  have hm : isM l i [40] = true := by rw [h.isM]; rfl
  unfold callA openA
  rw [hm, if_neg (by simp; omega)]
  unfold needA
  rw [if_pos hm]
  show (X (i + 1)).bind _ = _
  rw [hx]
  show ((if isM l j [41] = true then PR.ok () (j + 1) else failA l j 1).bind fun _ m => .ok x m) = _
  rw [if_pos (by rw [h2.isM]; rfl)]; rfl
theorem pos_of {q : Str → Str} {f : Nat} {l : List Tk} {d i j : Int} {x : Tf} {t t2 : Tk} {u r : List Tk} (h : TA l i (t :: u)) (hx : priA q f l d i = .ok x j) (h2 : TA l j (t2 :: r)) (ht : stopT t2) : posA q (f + 1) l d i = .ok x j := by
  rw [posA, hx]
  show sufsA l.length l (if isM l i [46] && isM l j [91] then [] else [x]) j = _
  rw [h2.isM, ht.no.2.1, Bool.and_false, if_neg (by decide), sufs_stop h2 ht]; rfl
theorem pos_er {q : Str → Str} {f : Nat} {l : List Tk} {d i e p : Int} (hx : priA q f l d i = .er e p) : posA q (f + 1) l d i = .er e p := by rw [posA, hx]; rfl
theorem open_at {l : List Tk} {d i : Int} {t : Tk} {u : List Tk} {m : Str} (h : TA l i (t :: u)) (hk : t.kind = 1) (hs : t.s = m) : openA l d i m = if 64 ≤ d then .er 3 t.pos else .ok () (i + 1) := by
  have hm : isM l i m = true := by rw [h.isM, hk, hs]; simp
  unfold openA needA
  rw [hm]
  by_cases hd : 64 ≤ d
  · rw [if_pos (by simp [hd]), if_pos hd]
    unfold failA; rw [h.pos]
  · rw [if_neg (by simp; omega), if_neg hd, if_pos rfl]
theorem nest_found {q : Str → Str} {l : List Tk} {kd : Int} (hkd : kd = 0 ∨ kd = 1 ∨ kd = 2 ∨ kd = 3) : ∀ (k f : Nat) (d j p : Int) (t : Tk) (r : List Tk), 0 ≤ d → d ≤ 64 → TA l j (nestK kd k p ++ t :: r) → stopT t → 8 * k + 4 ≤ f → Found q l kd d j p k f
  | 0, f, d, j, p, t, r, h0, h1, ha, ht, hf => by
    obtain ⟨f, rfl⟩ : ∃ g, f = g + 2 := ⟨f - 2, by omega⟩
    refine ⟨fun _ => ?_, fun h => by omega⟩
    have ha : TA l j (mkT [46] p :: t :: r) := ha
    have hp : priA q (f + 1) l d j = .ok (.mk (tmF 0) []) (j + 1) := by rw [priA, if_pos (by rw [ha.isM]; rfl)]
    exact pos_of ha hp ha.one ht
  | k + 1, f, d, j, p, t, r, h0, h1, ha, ht, hf => by
    obtain ⟨f, rfl⟩ : ∃ g, f = g + 6 := ⟨f - 6, by omega⟩
    unfold nestK at ha
    rw [List.append_assoc, List.append_assoc] at ha
    have ha2 := TA.add ha
    have ha3 := TA.add ha2
    have ih := fun (g : Nat) (hg : 8 * k + 4 ≤ g) (hd : d < 64) => nest_found (q := q) hkd k g (d + 1) (j + len (opnT kd p)) (p + len (opnS kd)) (mkT (shtS kd) (p + len (opnS kd) + len (nestF kd k))) (t :: r) (by omega) (by omega) ha2 (sht_stop kd _) hg
    have hln : len (nestK kd (k + 1) p) = len (opnT kd p) + len (nestK kd k (p + len (opnS kd))) + 1 := by rw [nestK_len, if_neg (by omega)]; rfl
    obtain ⟨t1, u1, hu1, ht1⟩ := nestK_head kd k (p + len (opnS kd)) (mkT (shtS kd) (p + len (opnS kd) + len (nestF kd k)) :: t :: r)
    have ha2' := ha2
    rw [show ([mkT (shtS kd) (p + len (opnS kd) + len (nestF kd k))] ++ t :: r) = mkT (shtS kd) (p + len (opnS kd) + len (nestF kd k)) :: t :: r from rfl, hu1] at ha2'
    have ha4 : TA l (j + len (opnT kd p) + len (nestK kd k (p + len (opnS kd)))) (mkT (shtS kd) (p + len (opnS kd) + len (nestF kd k)) :: t :: r) := ha3
    have ha5 := ha4.one
    unfold Found
    rw [hln]
    -- one more bracket
    suffices h : (d = 64 → priA q (f + 5) l d j = .er 3 (p + if kd = 3 then 3 else 0)) ∧
        (d < 64 → (d + 1 + k ≤ 64 → priA q (f + 5) l d j = .ok (nestG kd (k + 1)) (j + (len (opnT kd p) + len (nestK kd k (p + len (opnS kd))) + 1))) ∧
          (64 < d + 1 + k → priA q (f + 5) l d j = .er 3 (p + len (opnS kd) + len (opnS kd) * (64 - (d + 1)) + if kd = 3 then 3 else 0))) by
      have hop : ∃ t0 u0, TA l j (t0 :: u0) := by
        unfold opnT at ha
        split at ha
        · exact ⟨_, _, ha⟩
        split at ha
        · exact ⟨_, _, ha⟩
        split at ha
        · exact ⟨_, _, ha⟩
        · exact ⟨_, _, ha⟩
      obtain ⟨t0, u0, hop⟩ := hop
      refine ⟨fun hd => ?_, fun hd => ?_⟩
      · refine pos_of (r := r) hop ((h.2 (by omega)).1 (by omega)) ?_ ht
        rw [show j + (len (opnT kd p) + len (nestK kd k (p + len (opnS kd))) + 1) = j + len (opnT kd p) + len (nestK kd k (p + len (opnS kd))) + 1 by omega]; exact ha5
      · rcases (by omega : d = 64 ∨ d < 64) with e | e
        · rw [pos_er (h.1 e), e]; congr 1; rw [Int.sub_self, Int.mul_zero, Int.add_zero]
        · rw [pos_er ((h.2 e).2 (by omega))]
          congr 1
          have : len (opnS kd) * (64 - d) = len (opnS kd) + len (opnS kd) * (64 - (d + 1)) := by
            rw [show (64 - d : Int) = 1 + (64 - (d + 1)) by omega, Int.mul_add, Int.mul_one]
          omega
    rcases hkd with rfl | rfl | rfl | rfl
    · -- ( )
      have hl1 : len (opnT 0 p) = 1 := rfl
      have hl2 : len (opnS 0) = 1 := rfl
      rw [hl1, hl2] at ha4
      rw [hl1, hl2]
      have ih := ih (f + 3) (by omega)
      rw [hl1, hl2] at ih
      have hA : TA l j (mkT [40] p :: (nestK 0 k (p + 1) ++ (mkT [41] (p + 1 + len (nestF 0 k)) :: t :: r))) := ha
      have e : priA q (f + 5) l d j = callA l d j (filA q (f + 4) l (d + 1)) := by
        rw [priA, hA.isM, hA.isM, hA.isM, hA.at]; rfl
      rw [e]
      refine ⟨fun hd => ?_, fun hd => ?_⟩
      · rw [call_deep hA (by omega)]; congr 1; exact (Int.add_zero p).symm
      · have := fil_found (ih hd) ha4 (sht_stop 0 _)
        refine ⟨fun hk => ?_, fun hk => ?_⟩
        · rw [ncall_ok hA hd (this.1 hk) ha4]
          show PR.ok (nestG 0 k) _ = PR.ok (nestG 0 k) _
          congr 1; omega
        · rw [ncall_er hA hd (this.2 hk), hl2]
    · -- [ ]
      have hl1 : len (opnT 1 p) = 1 := rfl
      have hl2 : len (opnS 1) = 1 := rfl
      rw [hl1, hl2] at ha4
      rw [hl1, hl2]
      have ih := ih (f + 3) (by omega)
      rw [hl1, hl2] at ih
      rw [hl1] at ha2'
      have hA : TA l j (mkT [91] p :: (nestK 1 k (p + 1) ++ (mkT [93] (p + 1 + len (nestF 1 k)) :: t :: r))) := ha
      have e : priA q (f + 5) l d j = (openA l d j [91]).bind fun _ j => lisA q (f + 4) l (d + 1) [] j := by
        rw [priA, hA.isM, hA.isM, hA.isM, hA.at]; rfl
      have ho := open_at (d := d) (m := [91]) hA rfl rfl
      rw [e]
      refine ⟨fun hd => ?_, fun hd => ?_⟩
      · rw [ho, if_pos (by omega)]; show PR.er 3 p = _; congr 1; exact (Int.add_zero p).symm
      · rw [ho, if_neg (by omega)]
        show (_ → lisA q (f + 4) l (d + 1) [] (j + 1) = _) ∧ (_ → lisA q (f + 4) l (d + 1) [] (j + 1) = _)
        have hno : ¬ isM l (j + 1) [93] = true := by
          rw [ha2'.isM]
          rcases ht1 with ⟨h1, h2 | h2 | h2 | h2⟩ | h1 <;> rw [h1] <;> try rw [h2]
          all_goals simp
        have e2 : lisA q (f + 4) l (d + 1) [] (j + 1) = (posA q (f + 3) l (d + 1) (j + 1)).bind fun x m => lisA q (f + 3) l (d + 1) [x] m := by
          rw [lisA, if_neg hno]; rfl
        rw [e2]
        refine ⟨fun hk => ?_, fun hk => ?_⟩
        · rw [(ih hd).1 hk]
          show lisA q (f + 3) l (d + 1) [nestG 1 k] _ = _
          rw [lisA, if_pos (by rw [ha4.isM]; rfl)]
          show PR.ok (Tf.mk (tmF 9) [nestG 1 k]) _ = PR.ok (Tf.mk (tmF 9) [nestG 1 k]) _
          congr 1; omega
        · rw [(ih hd).2 hk, hl2]; rfl
    · -- { a: }
      have hl1 : len (opnT 2 p) = 3 := rfl
      have hl2 : len (opnS 2) = 4 := rfl
      rw [hl1, hl2] at ha4
      rw [hl1, hl2]
      have ih := ih (f + 3) (by omega)
      rw [hl1, hl2] at ih
      have hA : TA l j (mkT [123] p :: wdT [97] (p + 1) :: mkT [58] (p + 2) :: (nestK 2 k (p + 4) ++ (mkT [125] (p + 4 + len (nestF 2 k)) :: t :: r))) := ha
      have hA1 := hA.one
      have hA2 := hA1.one
      have e : priA q (f + 5) l d j = (openA l d j [123]).bind fun _ j => obsA q (f + 4) l (d + 1) [] j := by
        rw [priA, hA.isM, hA.isM, hA.at]; rfl
      have ho := open_at (d := d) (m := [123]) hA rfl rfl
      rw [e]
      refine ⟨fun hd => ?_, fun hd => ?_⟩
      · rw [ho, if_pos (by omega)]; show PR.er 3 p = _; congr 1; exact (Int.add_zero p).symm
      · rw [ho, if_neg (by omega)]
        show (_ → obsA q (f + 4) l (d + 1) [] (j + 1) = _) ∧ (_ → obsA q (f + 4) l (d + 1) [] (j + 1) = _)
        have e2 : obsA q (f + 4) l (d + 1) [] (j + 1) = (posA q (f + 3) l (d + 1) (j + 3)).bind fun x m => obsA q (f + 3) l (d + 1) [x.named [97]] m := by
          rw [obsA, if_neg (by rw [hA1.isM]; exact Bool.false_ne_true)]
          show (if (at' l (j + 1)).kind ≠ 2 ∧ (at' l (j + 1)).kind ≠ 4 ∨ (at' l (j + 1)).s ∈ ([] : List Str) then failA l (j + 1) 1 else _) = _
          rw [hA1.at, if_neg (by simp [wdT])]
          unfold needA
          rw [if_pos (by rw [hA2.isM]; rfl)]
          show (posA q (f + 3) l (d + 1) (j + 1 + 1 + 1)).bind _ = _
          rw [show j + 1 + 1 + 1 = j + 3 by omega]; rfl
        rw [e2]
        refine ⟨fun hk => ?_, fun hk => ?_⟩
        · rw [(ih hd).1 hk]
          show obsA q (f + 3) l (d + 1) [(nestG 2 k).named [97]] _ = _
          rw [obsA, if_pos (by rw [ha4.isM]; rfl)]
          show PR.ok (Tf.mk (tmF 8) [(nestG 2 k).named [97]]) _ = PR.ok (Tf.mk (tmF 8) [(nestG 2 k).named [97]]) _
          congr 1; omega
        · rw [(ih hd).2 hk, hl2]; rfl
    · -- map( )
      have hl1 : len (opnT 3 p) = 2 := rfl
      have hl2 : len (opnS 3) = 4 := rfl
      rw [hl1, hl2] at ha4
      rw [hl1, hl2]
      have ih := ih (f + 2) (by omega)
      rw [hl1, hl2] at ih
      have hA : TA l j (wdT sMap p :: mkT [40] (p + 3) :: (nestK 3 k (p + 4) ++ (mkT [41] (p + 4 + len (nestF 3 k)) :: t :: r))) := ha
      have hA1 := hA.one
      have e : priA q (f + 5) l d j = (callA l d (j + 1) (filA q (f + 3) l (d + 1))).bind fun x j => .ok (.mk (tmF 5) [x]) j := by
        rw [priA, hA.isM, hA.at, worA, hA.at]
        rfl
      rw [e]
      refine ⟨fun hd => ?_, fun hd => ?_⟩
      · rw [call_deep hA1 (by omega)]; rfl
      · have := fil_found (ih hd) ha4 (sht_stop 3 _)
        have hx : j + 1 + 1 = j + 2 := by omega
        refine ⟨fun hk => ?_, fun hk => ?_⟩
        · rw [ncall_ok hA1 hd (by rw [hx]; exact this.1 hk) ha4]
          show PR.ok (Tf.mk (tmF 5) [nestG 3 k]) _ = PR.ok (Tf.mk (tmF 5) [nestG 3 k]) _
          congr 1; omega
        · rw [ncall_er hA1 hd (by rw [hx]; exact this.2 hk), hl2]; rfl
/-- How many terms. -/
theorem nest_many (kd : Int) (hkd : kd = 0 ∨ kd = 1 ∨ kd = 2 ∨ kd = 3) : ∀ k : Nat, len (nestG kd k).flat = if kd = 0 then 1 else (k : Int) + 1
  | 0 => by rw [nestG, Tf.flat, flatF, len_cons, len_nil]; split <;> rfl
  | k + 1 => by
    have ih := nest_many kd hkd k
    have hn : ∀ (x : Tf) (n : Str), len (x.named n).flat = len x.flat := fun x n => by obtain ⟨t, ps⟩ := x; rw [Tf.named, Tf.flat, Tf.flat, len_cons, len_cons]
    rw [nestG]
    rcases hkd with rfl | rfl | rfl | rfl
    · rw [if_pos rfl, if_pos rfl]; rw [if_pos rfl] at ih; exact ih
    · rw [if_neg (by decide), if_pos rfl, if_neg (by decide)]; rw [if_neg (by decide)] at ih
      rw [Tf.flat, flatF, flatF, List.append_nil, len_cons, ih]; omega
    · rw [if_neg (by decide), if_neg (by decide), if_pos rfl, if_neg (by decide)]; rw [if_neg (by decide)] at ih
      rw [Tf.flat, flatF, flatF, List.append_nil, len_cons, hn, ih]; omega
    · rw [if_neg (by decide), if_neg (by decide), if_neg (by decide), if_neg (by decide)]; rw [if_neg (by decide)] at ih
      rw [Tf.flat, flatF, flatF, List.append_nil, len_cons, ih]; omega
/-- parse.Parse, of such a text. -/
theorem nest_parse (q : Str → Str) {kd : Int} (hkd : kd = 0 ∨ kd = 1 ∨ kd = 2 ∨ kd = 3) (k : Nat) :
    ((k : Int) ≤ 64 → parseF q (nestF kd k) = ((nestG kd k).flat, 0, 0)) ∧ (64 < (k : Int) → parseF q (nestF kd k) = ([], len (opnS kd) * 64 + if kd = 3 then 3 else 0, 3)) := by
  have hl := nest_tokens kd k
  have ha : TA (nestK kd k 0 ++ [endTk (nestF kd k)]) 0 (nestK kd k 0 ++ endTk (nestF kd k) :: []) := ⟨Int.le_refl 0, rfl⟩
  have hs : stopT (endTk (nestF kd k)) := .inl rfl
  have ha2 := TA.add ha
  have hlen : ∀ k p, k + 1 ≤ (nestK kd k p).length := by
    intro k
    induction k with
    | zero => intro p; exact Nat.le_refl _
    | succ k ih =>
      intro p
      have h1 := ih (p + len (opnS kd))
      have h2 : 1 ≤ (opnT kd p).length := by
        unfold opnT
        split
        · exact Nat.le_refl _
        split
        · exact Nat.le_refl _
        split
        · exact Nat.le_add_left 1 2
        · exact Nat.le_add_left 1 1
      unfold nestK
      rw [List.length_append, List.length_append]; omega
  have hl1 := hlen k 0
  obtain ⟨F, hF⟩ : ∃ F, 8 * (nestK kd k 0 ++ [endTk (nestF kd k)]).length + 8 = F + 2 := ⟨8 * (nestK kd k 0 ++ [endTk (nestF kd k)]).length + 6, by omega⟩
  have hfd := nest_found (q := q) hkd k (F + 1) 0 0 0 (endTk (nestF kd k)) [] (Int.le_refl 0) (by omega) ha hs (by rw [List.length_append] at hF; simp only [List.length_cons, List.length_nil] at hF; omega)
  have hff := fil_found hfd ha2 hs
  unfold parseF parseA
  rw [hl]
  simp only
  rw [if_neg (by simp), hF]
  refine ⟨fun h => ?_, fun h => ?_⟩
  · rw [hff.1 (by omega)]
    simp only
    rw [ha2.at, if_pos (show (endTk (nestF kd k)).kind = 6 from rfl)]
  · rw [hff.2 (by omega)]
    simp only
    rw [Int.zero_add, Int.sub_zero]
end Go.Eng
set_option maxRecDepth 100000
namespace Go.Proofs.YtmjpjbmeamnfpaaGreatDoor
open Go.Eng

theorem fieldsTm : Tryz.prog.underlying 51 = some (.struct (Tryz.prog.fieldsOf 51)) := by kernel_rfl
theorem fieldsLTm : (Tryz.prog.fieldsOf 51).toList = [⟨ "Op", 3, 0, false, "", "", 0⟩, ⟨ "Many", 3, 1, false, "", "", 8⟩, ⟨ "Name", 9, 2, false, "", "", 16⟩, ⟨ "S", 9, 3, false, "", "", 32⟩, ⟨ "N", 3, 4, false, "", "", 48⟩, ⟨ "C", 46, 5, false, "", "", 56⟩] := by kernel_rfl
theorem eqInTm (d : Nat) (a b : Tm) (w : World) : (Op.equalIn (d + 1 + 1 + 1) 51 (.agg (Tm.cells a).toArray) (.agg (Tm.cells b).toArray)).run Tryz.prog w = .ok (decide (a = b)) w := by
  rw [run_equalIn_agg w _ _ _ _ fieldsTm Tryz.stoodInHeld51, fieldsLTm]
  rw [eqF_cons (P := Tryz.prog) (w := w) (xs := (Tm.cells a).toArray) (ys := (Tm.cells b).toArray) (f := ⟨ "Op", 3, 0, false, "", "", 0⟩) (by decide) (show (part 3 (Tm.cells a).toArray 0).run Tryz.prog w = .ok (i64 ((a).op)) w by kernel_rfl) (show (part 3 (Tm.cells b).toArray 0).run Tryz.prog w = .ok (i64 ((b).op)) w by kernel_rfl) (eqI Tryz.underlying3 w (d + 1) ((a).op) ((b).op))]
  rw [eqF_cons (P := Tryz.prog) (w := w) (xs := (Tm.cells a).toArray) (ys := (Tm.cells b).toArray) (f := ⟨ "Many", 3, 1, false, "", "", 8⟩) (by decide) (show (part 3 (Tm.cells a).toArray 1).run Tryz.prog w = .ok (i64 ((a).many)) w by kernel_rfl) (show (part 3 (Tm.cells b).toArray 1).run Tryz.prog w = .ok (i64 ((b).many)) w by kernel_rfl) (eqI Tryz.underlying3 w (d + 1) ((a).many) ((b).many))]
  rw [eqF_cons (P := Tryz.prog) (w := w) (xs := (Tm.cells a).toArray) (ys := (Tm.cells b).toArray) (f := ⟨ "Name", 9, 2, false, "", "", 16⟩) (by decide) (show (part 9 (Tm.cells a).toArray 2).run Tryz.prog w = .ok (str ((a).name)) w by kernel_rfl) (show (part 9 (Tm.cells b).toArray 2).run Tryz.prog w = .ok (str ((b).name)) w by kernel_rfl) (eqS Tryz.underlying9 w (d + 1) ((a).name) ((b).name))]
  rw [eqF_cons (P := Tryz.prog) (w := w) (xs := (Tm.cells a).toArray) (ys := (Tm.cells b).toArray) (f := ⟨ "S", 9, 3, false, "", "", 32⟩) (by decide) (show (part 9 (Tm.cells a).toArray 3).run Tryz.prog w = .ok (str ((a).s)) w by kernel_rfl) (show (part 9 (Tm.cells b).toArray 3).run Tryz.prog w = .ok (str ((b).s)) w by kernel_rfl) (eqS Tryz.underlying9 w (d + 1) ((a).s) ((b).s))]
  rw [eqF_cons (P := Tryz.prog) (w := w) (xs := (Tm.cells a).toArray) (ys := (Tm.cells b).toArray) (f := ⟨ "N", 3, 4, false, "", "", 48⟩) (by decide) (show (part 3 (Tm.cells a).toArray 4).run Tryz.prog w = .ok (i64 ((a).n)) w by kernel_rfl) (show (part 3 (Tm.cells b).toArray 4).run Tryz.prog w = .ok (i64 ((b).n)) w by kernel_rfl) (eqI Tryz.underlying3 w (d + 1) ((a).n) ((b).n))]
  rw [eqF_cons (P := Tryz.prog) (w := w) (xs := (Tm.cells a).toArray) (ys := (Tm.cells b).toArray) (f := ⟨ "C", 46, 5, false, "", "", 56⟩) (by decide) (show (part 46 (Tm.cells a).toArray 5).run Tryz.prog w = .ok (.agg (Nd.cells ((a).c)).toArray) w by kernel_rfl) (show (part 46 (Tm.cells b).toArray 5).run Tryz.prog w = .ok (.agg (Nd.cells ((b).c)).toArray) w by kernel_rfl) (eqInNd d ((a).c) ((b).c) w)]
  have ht : (.ok true w : Result Bool) = .ok (decide True) w := rfl
  rw [eqF_nil, ht]
  simp only [ite_ok]
  have hp : ((a).op = (b).op ∧ (a).many = (b).many ∧ (a).name = (b).name ∧ (a).s = (b).s ∧ (a).n = (b).n ∧ (a).c = (b).c ∧ True) ↔ a = b := by cases a; cases b; simp
  rw [decide_eq_decide.2 hp]
theorem eqTm (x y : Operand) (a b : Tm) (w : World) : (do eqGuard .eql 51 x y (.agg (Tm.cells a).toArray) (.agg (Tm.cells b).toArray); binOp .eql 51 (.agg (Tm.cells a).toArray) (.agg (Tm.cells b).toArray) : Sem Value).run Tryz.prog w = .ok (.bool (decide (a = b))) w := run_eql_of x y w Tryz.eqGuardType51 (eqInTm 9997 a b w)
end Go.Proofs.YtmjpjbmeamnfpaaGreatDoor
set_option maxRecDepth 100000
namespace Go.Proofs.YtmjpjbmeamnfpaaGreatDoor
open Go.Eng

theorem eok_app {a b : List Ck} (ha : EOk a) (hb : EOk b) : EOk (a ++ b) := fun c hc => (List.mem_append.1 hc).elim (ha c) (hb c)
theorem eok_one {x y : Bool} (h : x = true → y = true) : EOk [.b x y] := fun c hc => by rw [List.mem_singleton.1 hc]; exact h
abbrev xTm (t : Tm) : XV := .ag [I t.op, I t.many, .v (str t.name), .v (str t.s), I t.n, I t.c.kind, I t.c.many, .v (str t.c.name), .v (str t.c.s), .v (.bool t.c.neg), I t.c.e]
abbrev lit1 : Str := [46, 97, 91, 49, 58, 93]
abbrev lit2 : Str := [109, 97, 112, 40, 115, 101, 108, 101, 99, 116, 40, 46, 97, 32, 61, 61, 32, 49, 32, 97, 110, 100, 32, 40, 46, 98, 32, 60, 32, 50, 32, 124, 32, 110, 111, 116, 41, 41, 32, 124, 32, 123, 120, 58, 32, 46, 99, 44, 32, 34, 121, 32, 122, 34, 58, 32, 40, 46, 100, 32, 124, 32, 46, 101, 41, 125, 41]
abbrev lit3 : Str := [46, 97, 32, 124, 32, 93]
theorem lit1_is : parseF quoteP lit1 = ([{ tmF 4 with many := 2 }, { tmF 1 with s := [97] }, { tmF 3 with n := 1 }], 0, 0) := by decide +kernel
theorem lit2_is : (parseF quoteP lit2).2.2 = 0 ∧ len (parseF quoteP lit2).1 = 12 := by decide +kernel
theorem lit3_is : parseF quoteP lit3 = ([], 5, 1) := by decide +kernel
theorem alive9_c (w : World) (hg : Gl w) :
    Calls Tryz.prog 10 [].toArray w fun e w' => e = .returned (.bool true) ∧ Ext w w' := by
 refine xenter ttok Tryz.func10 rfl Tryz.ntmps10 [] [] [] rfl (st0 w) fnil (fun B hB => ?_) rfl
 refine xcallM (fun h : SlH => .tu [.sl 1 h.v, I 0, I 0]) [1] rfl (eok rfl) (by omega) rfl Tryz.call11 rfl rfl (eok rfl) (fun w M hX => by have := parseP_c lit1 w M hX.st.sat (hg.low hX.st.low) (by decide); rw [lit1_is] at this; exact this) (fun _ => rfl) fun h1 _ => ?_
 refine xcallM (fun h : SlH => .tu [.sl 2 h.v, I (parseF quoteP lit2).2.1, I (parseF quoteP lit2).2.2]) [2] rfl (eok rfl) (by omega) rfl Tryz.call11 rfl rfl (eok rfl) (fun w M hX => parseP_c lit2 w M hX.st.sat (hg.low hX.st.low) (by decide)) (fun _ => rfl) fun h2 _ => ?_
 refine xcallM (fun h : SlH => .tu [.sl 3 h.v, I 5, I 1]) [3] rfl (eok rfl) (by omega) rfl Tryz.call11 rfl rfl (eok rfl) (fun w M hX => by have := parseP_c lit3 w M hX.st.sat (hg.low hX.st.low) (by decide); rw [lit3_is] at this; exact this) (fun _ => rfl) fun h3 _ => ?_
 have ⟨e1, e2⟩ := lit2_is
 refine xpv (.v (.bool (decide ({ tmF 3 with n := 1 } = ({ tmF 3 with n := 1 } : Tm))))) rfl ?_ ?_ rfl (fun w M hX => PV.bin (opd_d (v := xTm { tmF 3 with n := 1 }) rfl (eok rfl)) (opd_d (v := xTm { tmF 3 with n := 1 }) rfl (eok rfl)) (fun _ w _ => eqTm _ _ _ _ w)) ?_
 ·repeat' first | exact eok rfl | exact eok_one (fun _ => rfl) | apply eok_app
 ·decide
 refine xret hB rfl rfl (eok rfl) (by omega) rfl (eok rfl) fun w M hX => ⟨?_, hX.st.low⟩
 show Ending.returned (.bool _) = _
 rw [e1, e2]; rfl
theorem nestF_len (kd : Int) : ∀ k : Nat, len (nestF kd k) ≤ 1 + 5 * (k : Int)
  | 0 => by show len ([46] : Str) ≤ _; decide
  | k + 1 => by
    have ih := nestF_len kd k
    have h1 := sht_len kd
    have h2 : len (opnS kd) ≤ 4 := by unfold opnS; split; decide; split; decide; split <;> decide
    rw [nestF, len_app, len_app]; omega
theorem parseNest_c (n kd : Int) (w : World) (hg : Gl w) (h0 : 0 ≤ n ∧ n ≤ 255) (h1 : 0 ≤ kd ∧ kd ≤ 255) :
    Calls Tryz.prog 4 [Value.int .u8 n, Value.int .u8 kd].toArray w fun e w' => e = .returned (.bool true) ∧ Ext w w' := by
 obtain ⟨q, hq, hq4⟩ : ∃ q, kd.tmod 4 = q ∧ (q = 0 ∨ q = 1 ∨ q = 2 ∨ q = 3) := ⟨kd % 4, Int.tmod_eq_emod_of_nonneg h1.1, by omega⟩
 obtain ⟨m, hm, hm1⟩ : ∃ m : Nat, n.tmod 100 = (m : Int) ∧ m < 100 := ⟨(n % 100).toNat, by rw [Int.tmod_eq_emod_of_nonneg h0.1]; omega, by omega⟩
 have hp := nest_parse quoteP hq4 m
 have hmany := nest_many q hq4 m
 have hlen := nestF_len q
 have hol : len (opnS q) ≤ 4 := by unfold opnS; split; decide; split; decide; split <;> decide
 have ho0 := len_nonneg (opnS q)
 have hsl := sht_len q
 refine xenter ttok Tryz.func4 rfl Tryz.ntmps4 [] [] [.v (.int .u8 n), .v (.int .u8 kd)] rfl (st0 w) fnil (fun B hB => ?_) rfl
 refine xpv (.v (.int .u8 m)) rfl (eok rfl) (by omega) rfl (fun w M hX => PV.remK (opd_d (v := .v (.int .u8 n)) (E := []) rfl (eok rfl)) (opd_d (v := .v (.int .u8 100)) (E := []) rfl (eok rfl)) (fun _ => by omega) (fun _ => hm)) ?_
 refine xlit 1 [[40], [91], [123, 97, 58, 32], [109, 97, 112, 40]] strC 1 9 strC_len rfl (eok rfl) (by omega) rfl (eok rfl) (fun w => by kernel_rfl) rfl fun v1 => ?_
 refine xpv (.v (.int .u8 q)) rfl (eok rfl) (by omega) rfl (fun w M hX => PV.remK (opd_d (v := .v (.int .u8 kd)) (E := []) rfl (eok rfl)) (opd_d (v := .v (.int .u8 4)) (E := []) rfl (eok rfl)) (fun _ => by omega) (fun _ => hq)) ?_
 refine xlit 2 [[41], [93], [125], [41]] strC 1 9 strC_len rfl (eok rfl) (by simp [len]; omega) rfl (eok rfl) (fun w => by kernel_rfl) rfl fun v2 => ?_
 refine xpv (.v (.int .u8 q)) rfl (eok rfl) (by omega) rfl (fun w M hX => PV.remK (opd_d (v := .v (.int .u8 kd)) (E := []) rfl (eok rfl)) (opd_d (v := .v (.int .u8 4)) (E := []) rfl (eok rfl)) (fun _ => by omega) (fun _ => hq)) ?_
 have e1 : at' [[40], [91], [123, 97, 58, 32], [109, 97, 112, 40]] q = opnS q := by rcases hq4 with rfl | rfl | rfl | rfl <;> rfl
 have e2 : at' [[41], [93], [125], [41]] q = shtS q := by rcases hq4 with rfl | rfl | rfl | rfl <;> rfl
 refine xloop (fun i : Nat => ⟨[], [], [Z 0 (.v (.int .u8 n)), Z 1 (.v (.int .u8 kd)), Z 5 (I m), Z 6 (.v (str (at' [[40], [91], [123, 97, 58, 32], [109, 97, 112, 40]] q))), Z 7 (.v (str (at' [[41], [93], [125], [41]] q))), Z 8 (.v (str (nestF q i))), Z 9 (I i)]⟩) (fun i => i ≤ m) (fun i => m - i) 0 rfl (eok rfl) (by simp [len]; omega) rfl (Nat.zero_le _) ?_
 intro i hi
 have hli := hlen i
 skip
 rw [e1, e2]
 refine xbr rfl (eok rfl) (by omega) (fun hb1 => ?_) (fun hb1 => ?_) <;> simp only [zb] at hb1
 ·exact xround (i + 1) rfl (eok rfl) (by simp only [len_app]; clear hp hmany; exact ⟨by omega, by omega, by omega, trivial⟩) rfl (by omega) (by omega)
 have em : i = m := by omega
 subst em
 by_cases hk : (i : Int) ≤ 64
 ·have e0 := hp.1 hk
  refine xcallM (fun h : SlH => .tu [.sl 3 h.v, I 0, I 0]) [3] (Fg := fun h => [(0, knT h.v (nestG q i).flat)]) (pu := fun _ => True) rfl (eok rfl) (by omega) rfl Tryz.call11 rfl rfl (eok rfl) (fun w M hX => by have := parseP_c (nestF q i) w M hX.st.sat (hg.low hX.st.low) (by omega); rw [e0] at this; exact this) (fun _ => rfl) fun h3 _ => ?_
  refine xbr rfl (eok rfl) (by omega) (fun hb2 => ?_) (fun hb2 => ?_) <;> simp only [zb] at hb2
  ·refine xpv (.v (.int .u8 q)) rfl (eok rfl) (by omega) rfl (fun w M hX => PV.remK (opd_d (v := .v (.int .u8 kd)) (E := []) rfl (eok rfl)) (opd_d (v := .v (.int .u8 4)) (E := []) rfl (eok rfl)) (fun _ => by omega) (fun _ => hq)) ?_
   refine xbr rfl (eok rfl) (by omega) (fun hb3 => ?_) (fun hb3 => ?_) <;> simp only [zb] at hb3
   ·refine xcall rfl (eok rfl) (by omega) Tryz.call10 rfl rfl (eok rfl) (fun _ w M hX => alive9_c w (hg.low hX.st.low)) rfl ?_
    rw [if_pos hb3] at hmany
    refine xret hB rfl rfl (eok rfl) (by omega) rfl (eok rfl) fun w M hX => ⟨?_, hX.st.low⟩
    show Ending.returned (.bool _) = _
    rw [hmany]; simp
   ·refine xcall rfl (eok rfl) (by omega) Tryz.call10 rfl rfl (eok rfl) (fun _ w M hX => alive9_c w (hg.low hX.st.low)) rfl ?_
    rw [if_neg hb3] at hmany
    refine xret hB rfl rfl (eok rfl) (by omega) rfl (eok rfl) fun w M hX => ⟨?_, hX.st.low⟩
    show Ending.returned (.bool _) = _
    rw [hmany]; simp
  ·omega
 ·have e0 := hp.2 (by omega)
  refine xcallM (fun h : SlH => .tu [.sl 3 h.v, I (len (opnS q) * 64 + if q = 3 then 3 else 0), I 3]) [3] (Fg := fun h => [(0, knT h.v [])]) (pu := fun _ => True) rfl (eok rfl) (by omega) rfl Tryz.call11 rfl rfl (eok rfl) (fun w M hX => by have := parseP_c (nestF q i) w M hX.st.sat (hg.low hX.st.low) (by omega); rw [e0] at this; exact this) (fun _ => rfl) fun h3 _ => ?_
  refine xbr rfl (eok rfl) (by omega) (fun hb2 => ?_) (fun hb2 => ?_) <;> simp only [zb] at hb2
  ·omega
  ·refine xpv (.v (.int .u8 q)) rfl (eok rfl) (by omega) rfl (fun w M hX => PV.remK (opd_d (v := .v (.int .u8 kd)) (E := []) rfl (eok rfl)) (opd_d (v := .v (.int .u8 4)) (E := []) rfl (eok rfl)) (fun _ => by omega) (fun _ => hq)) ?_
   refine xbr rfl (eok rfl) (by omega) (fun hb3 => ?_) (fun hb3 => ?_) <;> simp only [zb] at hb3
   ·refine xcall rfl (eok rfl) (by omega) Tryz.call10 rfl rfl (eok rfl) (fun _ w M hX => alive9_c w (hg.low hX.st.low)) rfl ?_
    refine xret hB rfl rfl (eok rfl) (by omega) rfl (eok rfl) fun w M hX => ⟨?_, hX.st.low⟩
    show Ending.returned (.bool _) = _
    rw [if_pos hb3]; simp [len]
   ·refine xcall rfl (eok rfl) (by omega) Tryz.call10 rfl rfl (eok rfl) (fun _ w M hX => alive9_c w (hg.low hX.st.low)) rfl ?_
    refine xret hB rfl rfl (eok rfl) (by omega) rfl (eok rfl) fun w M hX => ⟨?_, hX.st.low⟩
    show Ending.returned (.bool _) = _
    rw [if_neg hb3]; simp [len]
end Go.Proofs.YtmjpjbmeamnfpaaGreatDoor
set_option maxRecDepth 100000
namespace Go.Proofs.YtmjpjbmeamnfpaaGreatDoor.parseNest
open Go.ChangeShapes Go.WideShapes Go.ChangeAt Go.RowKit Go.Eng
noncomputable abbrev jP := Tryz.prog
noncomputable abbrev jf : FuncId := 4
noncomputable abbrev jfn := Tryz.f4
noncomputable abbrev js := Rows.parseNestSpec
noncomputable abbrev jc := Rows.parseNestRow
theorem jk0 : jc.wf (OpenSpec.ofChange js) = true := by kernel_rfl
theorem jk1 : laidOutB jP = true := by kernel_rfl
theorem jk2 : mapsRowed jP = true := by kernel_rfl
theorem jk3 : jfn.params.all (jP.readableRec ·) = true := by kernel_rfl
theorem jk4 : namedTie jP jc.named js.vars = true := by kernel_rfl
theorem jk5 : (jc.stops == []) = true := by kernel_rfl
theorem jk6 : (jP.stops == []) = true := by kernel_rfl
theorem jk7 : (jc.knobs == []) = true := by kernel_rfl
theorem jk8 : (jP.stopKnobs == []) = true := by kernel_rfl
theorem jk9 : (jc.inPlace == jP.inPlace jf) = true := by kernel_rfl
theorem jk10 : (jc.unfollowed == jP.unfollowed jf) = true := by kernel_rfl
theorem jk11 : (jc.recurses == jP.recurses jf) = true := by kernel_rfl
theorem jk12 : (jc.named == jP.varsNamed jf) = true := by kernel_rfl
theorem jk13 : (jc.maps == (jfn.params.toList ++ js.plain.varTypes jP).any (jP.mapsRec ·)) = true := by kernel_rfl
theorem jk14 : (jc.ifaces == (jfn.params.toList ++ js.plain.varTypes jP).any (jP.ifacesRec ·)) = true := by kernel_rfl
theorem jk15 : (jc.mapsOut == jP.mapsAmong jfn.resultTypes.toList) = true := by kernel_rfl
theorem jk16 : (jc.loops == (jfn.params.toList ++ js.plain.varTypes jP).any (jP.loopsFrom ·)) = true := by kernel_rfl
theorem jk17 : (jc.wideKeys == (jfn.params.toList ++ js.plain.varTypes jP ++ jfn.resultTypes.toList).any (jP.wideKeysFrom ·)) = true := by kernel_rfl
theorem jk18 : js.vars.all (jP.varReadable ·) = true := by kernel_rfl
theorem jk19 : jfn.resultTypes.all (fun t => jP.readableRec t && decide (t < jP.types.size)) = true := by kernel_rfl
theorem jk20 : (jc.ifacesOut == jfn.resultTypes.toList.any (jP.ifacesRec ·)) = true := by kernel_rfl
theorem jk21 : (jc.loopsOut == jfn.resultTypes.toList.any (jP.loopsFrom ·)) = true := by kernel_rfl
theorem jk22 : (jc.plainKeys == jP.plainKeys) = true := by kernel_rfl
theorem jk23 : jc.shortTexts.isNone = true := by kernel_rfl
theorem jk24 : jP.stopsHeard = true := by kernel_rfl
theorem jk25 : jP.mayEnter = true := by kernel_rfl
theorem jk26 : (jc.lifted == jP.liftsFinal) = true := by kernel_rfl
theorem jk27 : (jP.make == some jc.make) = true := by kernel_rfl
theorem jk28 : (jc.kinds == (if jc.domain.isEmpty then [] else jfn.params.toList.map fun t => match jP.underlying t with | some (.int k) => some k | _ => none)) = true := by kernel_rfl
theorem jk29 : (jc.pinned == jc.pinnedBy) = true := by kernel_rfl
theorem jk30 : (jc.veiled == (jfn.params.toList ++ js.plain.varTypes jP ++ jfn.resultTypes.toList).any (jP.veiledRec ·)) = true := by kernel_rfl
theorem jk31 : jc.veiledFits jP jfn.params.toList (jfn.params.toList ++ js.plain.varTypes jP ++ jfn.resultTypes.toList) = true := by kernel_rfl
theorem and_t {a b : Bool} (h : a = true) (h2 : b = true) : (a && b) = true := by rw [h, h2]; rfl
theorem joined : joinedFacts jP jf jfn js jc = true := (and_t (and_t (and_t (and_t (and_t (and_t (and_t (and_t (and_t (and_t (and_t (and_t (and_t (and_t (and_t (and_t (and_t (and_t (and_t (and_t (and_t (and_t (and_t (and_t (and_t (and_t (and_t (and_t (and_t (and_t (and_t jk0 jk1) jk2) jk3) jk4) jk5) jk6) jk7) jk8) jk9) jk10) jk11) jk12) jk13) jk14) jk15) jk16) jk17) jk18) jk19) jk20) jk21) jk22) jk23) jk24) jk25) jk26) jk27) jk28) jk29) jk30) jk31)
end Go.Proofs.YtmjpjbmeamnfpaaGreatDoor.parseNest
