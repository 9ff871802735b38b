/-
  THE MARKS, as they lie in lex's map: a row of marks for each first byte. Over any program.
-/
import Derived.Test.YthdialbnlnjgpaaGreatDoorEngK
import Derived.Test.YthdialbnlnjgpaaGreatDoorToks
set_option linter.unusedVariables false
set_option linter.unusedSimpArgs false
namespace Go.Eng
open Go.RowKit

def marksOf (c : Int) : List Str := marks8.filter (fun m => byteAt m 0 == c)
def MarkMap (M : Mem) (l : List KV) : Prop := ∀ c : Int, ∃ v, (kget l c).getD (.slice none 0 0) = v ∧ Sl M 1 (marksOf c).length v ((marksOf c).flatMap strC)
abbrev MG := List (KV × List Str)
def ownOf (e : TypeId) (p : KV × List Str) : HO := .own e 1 p.1.val p.2.length (p.2.flatMap strC)
def OwnL (e : TypeId) (G : MG) : List HO := G.map (ownOf e)
def rowOf : MG → Int → List Str
  | [], _ => []
  | p :: G, c => if c = p.1.key then p.2 else rowOf G c
/-- The rows hold the first k marks. -/
def MarkG (k : Int) (G : MG) : Prop := ∀ c, rowOf G c = (Eng.sub marks8 0 k).filter (fun m => byteAt m 0 == c)
theorem MarkG.start : MarkG 0 [] := fun _ => rfl
def Opened (e : TypeId) (G : MG) (c : Int) (v : Value) (xs : List Str) (R : List HO) : Prop :=
  (∃ G1 p G2, G = G1 ++ p :: G2 ∧ p.1.key = c ∧ (∀ q ∈ G1, q.1.key ≠ c) ∧ v = p.1.val ∧ xs = p.2 ∧ R = OwnL e (G1 ++ G2)) ∨
  ((∀ q ∈ G, q.1.key ≠ c) ∧ v = .slice none 0 0 ∧ xs = [] ∧ R = OwnL e G)
theorem split_key (c : Int) : ∀ G : MG, (∃ G1 p G2, G = G1 ++ p :: G2 ∧ p.1.key = c ∧ (∀ q ∈ G1, q.1.key ≠ c)) ∨ (∀ q ∈ G, q.1.key ≠ c)
  | [] => .inr fun _ h => by cases h
  | p :: G => by
    by_cases h : p.1.key = c
    · exact .inl ⟨[], p, G, rfl, h, fun _ h => by cases h⟩
    · rcases split_key c G with ⟨G1, q, G2, h1, h2, h3⟩ | h1
      · refine .inl ⟨p :: G1, q, G2, by rw [h1]; rfl, h2, fun r hr => ?_⟩
        rcases List.mem_cons.1 hr with rfl | hr
        · exact h
        · exact h3 r hr
      · refine .inr fun r hr => ?_
        rcases List.mem_cons.1 hr with rfl | hr
        · exact h
        · exact h1 r hr
theorem kget_mid {c : Int} : ∀ (G1 : MG) (p : KV × List Str) (G2 : MG), p.1.key = c → (∀ q ∈ G1, q.1.key ≠ c) → kget ((G1 ++ p :: G2).map Prod.fst) c = some p.1.val
  | [], p, G2, h, _ => by simp [kget, h]
  | q :: G1, p, G2, h, h2 => by
    have : ¬ c = q.1.key := fun e => h2 q (by simp) e.symm
    simp only [List.cons_append, List.map_cons, kget, beq_iff_eq, this, if_false]
    exact kget_mid G1 p G2 h (fun r hr => h2 r (by simp [hr]))
theorem kget_out {c : Int} : ∀ G : MG, (∀ q ∈ G, q.1.key ≠ c) → kget (G.map Prod.fst) c = none
  | [], _ => rfl
  | q :: G, h => by
    have : ¬ c = q.1.key := fun e => h q (by simp) e.symm
    simp only [List.map_cons, kget, beq_iff_eq, this, if_false]
    exact kget_out G (fun r hr => h r (by simp [hr]))
theorem kput_mid {c : Int} (v : Value) : ∀ (G1 : MG) (p : KV × List Str) (G2 : MG), p.1.key = c → (∀ q ∈ G1, q.1.key ≠ c) → kput ((G1 ++ p :: G2).map Prod.fst) c v = some ((G1.map Prod.fst) ++ ⟨c, v, p.1.born⟩ :: G2.map Prod.fst)
  | [], p, G2, h, _ => by simp [kput, h]
  | q :: G1, p, G2, h, h2 => by
    have : ¬ c = q.1.key := fun e => h2 q (by simp) e.symm
    simp only [List.cons_append, List.map_cons, kput, beq_iff_eq, this, if_false]
    have ih := kput_mid v G1 p G2 h (fun r hr => h2 r (by simp [hr]))
    rw [ih]; rfl
theorem kput_out {c : Int} (v : Value) : ∀ G : MG, (∀ q ∈ G, q.1.key ≠ c) → kput (G.map Prod.fst) c v = none
  | [], _ => rfl
  | q :: G, h => by
    have : ¬ c = q.1.key := fun e => h q (by simp) e.symm
    simp only [List.map_cons, kput, beq_iff_eq, this, if_false]
    rw [kput_out v G (fun r hr => h r (by simp [hr]))]; rfl
theorem rowOf_mid {c : Int} : ∀ (G1 : MG) (p : KV × List Str) (G2 : MG), (∀ q ∈ G1, q.1.key ≠ p.1.key) → rowOf (G1 ++ p :: G2) c = if c = p.1.key then p.2 else rowOf (G1 ++ G2) c
  | [], p, G2, _ => rfl
  | q :: G1, p, G2, h => by
    have ih := rowOf_mid (c := c) G1 p G2 (fun r hr => h r (by simp [hr]))
    have hq := h q (by simp)
    simp only [List.cons_append, rowOf]
    by_cases e : c = q.1.key
    · rw [if_pos e, if_neg (fun e2 => hq (by rw [← e, e2])), if_pos e]
    · rw [if_neg e, ih, if_neg e]
theorem rowOf_out {c : Int} : ∀ (G : MG) (p : KV × List Str), (∀ q ∈ G, q.1.key ≠ p.1.key) → rowOf (G ++ [p]) c = if c = p.1.key then p.2 else rowOf G c := by
  intro G p h
  have := rowOf_mid (c := c) G p [] h
  rw [List.append_nil] at this; exact this
theorem rowOf_none {c : Int} : ∀ G : MG, (∀ q ∈ G, q.1.key ≠ c) → rowOf G c = []
  | [], _ => rfl
  | q :: G, h => by
    rw [rowOf, if_neg (fun e => h q (by simp) e.symm)]
    exact rowOf_none G (fun r hr => h r (by simp [hr]))
theorem opened_len {e : TypeId} {G : MG} {c k : Int} {v : Value} {xs : List Str} {R : List HO} (h : Opened e G c v xs R) (hG : MarkG k G) (h0 : 0 ≤ k) : len xs ≤ 17 := by
  rcases h with ⟨G1, p, G2, rfl, h2, h3, rfl, rfl, rfl⟩ | ⟨_, _, rfl, _⟩
  · have := hG c
    rw [rowOf_mid G1 p G2 (by rw [h2]; exact h3), if_pos h2.symm] at this
    rw [this]
    have h4 := List.length_filter_le (fun m => byteAt m 0 == c) (Eng.sub marks8 0 k)
    have h5 := (sub_bd marks8 0 k).2
    have h6 : len marks8 = 17 := rfl
    unfold len at *; omega
  · decide
section
variable {w0 w : World} {M0 M : Mem} {A B C : HO} {e : TypeId} {Rs : List HO}
theorem mk_open {G : MG} (c : Int) (hS : St w0 M0 w M (A :: B :: C :: (OwnL e G ++ Rs))) : ∃ v xs R, Opened e G c v xs R ∧ (kget (G.map Prod.fst) c).getD (.slice none 0 0) = v ∧ St w0 M0 w M (A :: B :: C :: .own e 1 v xs.length (xs.flatMap strC) :: (R ++ Rs)) := by
  rcases split_key c G with ⟨G1, p, G2, h1, h2, h3⟩ | h1
  · refine ⟨_, _, _, .inl ⟨G1, p, G2, h1, h2, h3, rfl, rfl, rfl⟩, by rw [h1, kget_mid G1 p G2 h2 h3]; rfl, ?_⟩
    refine hS.perm ?_
    refine .cons _ (.cons _ (.cons _ ?_))
    subst h1
    unfold OwnL
    rw [List.map_append, List.map_append, List.map_cons, List.append_assoc, List.append_assoc, List.cons_append]
    exact List.perm_middle.symm
  · refine ⟨_, _, _, .inr ⟨h1, rfl, rfl, rfl⟩, by rw [kget_out G h1]; rfl, ?_⟩
    have := hS.ownNil e 1
    refine this.perm ?_
    exact List.perm_middle (l₁ := [A, B, C])
theorem mk_close {G : MG} {c : Int} {v : Value} {xs : List Str} {R : List HO} (clk : Nat) (h : Opened e G c v xs R) (x : Str) (v' : Value) : ∃ G', kset (G.map Prod.fst) clk c v' = G'.map Prod.fst ∧
    (∀ {w : World} {M : Mem}, St w0 M0 w M (A :: B :: C :: .own e 1 v' (xs ++ [x]).length ((xs ++ [x]).flatMap strC) :: (R ++ Rs)) → St w0 M0 w M (A :: B :: C :: (OwnL e G' ++ Rs))) ∧
    ∀ {k : Int}, 0 ≤ k → k < 17 → x = at' marks8 k → c = byteAt x 0 → MarkG k G → MarkG (k + 1) G' := by
  have hf : ∀ {k : Int}, 0 ≤ k → k < 17 → x = at' marks8 k → ∀ c', (Eng.sub marks8 0 (k + 1)).filter (fun m => byteAt m 0 == c') = (Eng.sub marks8 0 k).filter (fun m => byteAt m 0 == c') ++ if byteAt x 0 = c' then [x] else [] := by
    intro k h0 h1 hx c'
    rw [sub_succ marks8 k h0 h1, List.filter_append, show marks8.getD k.toNat default = x from hx.symm]
    congr 1
    by_cases e : byteAt x 0 = c' <;> simp [e]
  rcases h with ⟨G1, p, G2, rfl, h2, h3, rfl, rfl, rfl⟩ | ⟨h1, rfl, rfl, rfl⟩
  · refine ⟨G1 ++ (⟨c, v', p.1.born⟩, p.2 ++ [x]) :: G2, ?_, fun hS => ?_, fun h0 hk hx hc hG c' => ?_⟩
    · unfold kset; rw [kput_mid v' G1 p G2 h2 h3]; simp
    · refine hS.perm (.cons _ (.cons _ (.cons _ ?_)))
      unfold OwnL
      rw [List.map_append, List.map_append, List.map_cons, List.append_assoc, List.append_assoc, List.cons_append]
      exact List.perm_middle
    · have := hG c'
      rw [rowOf_mid G1 p G2 (by rw [h2]; exact h3)] at this
      rw [rowOf_mid G1 (⟨c, v', p.1.born⟩, p.2 ++ [x]) G2 h3, hf h0 hk hx, ← this, h2]
      dsimp only
      rw [← hc]
      by_cases e : c' = c
      · rw [if_pos e, if_pos e, if_pos e.symm]
      · rw [if_neg e, if_neg e, if_neg (fun e2 => e e2.symm), List.append_nil]
  · refine ⟨G ++ [(⟨c, v', clk⟩, [x])], ?_, fun hS => ?_, fun h0 hk hx hc hG c' => ?_⟩
    · unfold kset; rw [kput_out v' G h1]; simp
    · refine hS.perm (.cons _ (.cons _ (.cons _ ?_)))
      unfold OwnL
      rw [List.map_append, List.append_assoc]
      exact List.perm_middle
    · have := hG c'
      rw [rowOf_out G _ h1, hf h0 hk hx, ← this]
      dsimp only
      rw [← hc]
      by_cases e : c' = c
      · rw [if_pos e, if_pos e.symm, e, rowOf_none G h1]; rfl
      · rw [if_neg e, if_neg (fun e2 => e e2.symm), List.append_nil]
theorem mk_end {G : MG} (hS : St w0 M0 w M (A :: B :: C :: (OwnL e G ++ Rs))) (hG : MarkG 17 G) : MarkMap M (G.map Prod.fst) ∧ St w0 M0 w M (A :: B :: C :: Rs) := by
  refine ⟨fun c => ?_, hS.drop _ (.cons_cons _ (.cons_cons _ (.cons_cons _ (List.sublist_append_right _ _))))⟩
  have hc := hG c
  rw [sub_all marks8 17 (Int.le_refl _)] at hc
  have hm : marksOf c = rowOf G c := hc.symm
  rw [hm]
  rcases split_key c G with ⟨G1, p, G2, h1, h2, h3⟩ | h1
  · refine ⟨_, by rw [h1, kget_mid G1 p G2 h2 h3], ?_⟩
    rw [h1, rowOf_mid G1 p G2 (by rw [h2]; exact h3), if_pos h2.symm]
    have hmem : ownOf e p ∈ (A :: B :: C :: (OwnL e G ++ Rs)) := by
      rw [h1]; unfold OwnL; simp
    obtain ⟨i, hi⟩ := List.getElem?_of_mem hmem
    exact hS.sl (i := i) hi
  · refine ⟨_, by rw [kget_out G h1], ?_⟩
    rw [rowOf_none G h1]; exact Sl.nil _ 1
end
theorem find_congr {α : Type} {p q : α → Bool} : ∀ {l : List α}, (∀ x ∈ l, p x = q x) → l.find? p = l.find? q
  | [], _ => rfl
  | a :: l, h => by
    rw [List.find?_cons, List.find?_cons, h a (by simp), find_congr (fun x hx => h x (by simp [hx]))]
theorem mark_first {m : Str} (hm : m ∈ marks8) : ¬ m = [] := by
  simp only [marks8, List.mem_cons, List.not_mem_nil, or_false] at hm
  rcases hm with rfl | rfl | rfl | rfl | rfl | rfl | rfl | rfl | rfl | rfl | rfl | rfl | rfl | rfl | rfl | rfl | rfl <;> simp
theorem prefix_first {s m : Str} (h : Lib.hasPrefix s m = true) (hm : ¬ m = []) : byteAt m 0 = byteAt s 0 := by
  cases m with
  | nil => exact absurd rfl hm
  | cons a m =>
    cases s with
    | nil => simp [Lib.hasPrefix] at h
    | cons b s =>
      simp only [Lib.hasPrefix, List.isPrefixOf, Bool.and_eq_true, beq_iff_eq] at h
      rw [h.1]; rfl
theorem markP_of (s : Str) : markP s = ((marksOf (byteAt s 0)).find? (fun m => Lib.hasPrefix s m)).getD [] := by
  unfold markP marksOf
  rw [List.find?_filter]
  congr 1
  refine find_congr fun m hm => ?_
  cases hp : Lib.hasPrefix s m with
  | false => simp
  | true => simp [prefix_first hp (mark_first hm)]
def NoneTo (s : Str) (L : List Str) (k : Int) : Prop := (Eng.sub L 0 k).find? (fun m => Lib.hasPrefix s m) = none
theorem NoneTo.step {s : Str} {L : List Str} {k : Int} (h : NoneTo s L k) (h0 : 0 ≤ k) (h1 : k < len L) (h2 : Lib.hasPrefix s (at' L k) = false) : NoneTo s L (k + 1) := by
  unfold NoneTo at *
  rw [sub_succ L k h0 h1, List.find?_append, h, Option.none_or, List.find?_cons, show L.getD k.toNat default = at' L k from rfl, h2]; rfl
theorem NoneTo.found {s : Str} {L : List Str} {k : Int} (h : NoneTo s L k) (h0 : 0 ≤ k) (h1 : k < len L) (h2 : Lib.hasPrefix s (at' L k) = true) : (L.find? (fun m => Lib.hasPrefix s m)).getD [] = at' L k := by
  unfold NoneTo at h
  have e : L = Eng.sub L 0 k ++ from' L k := from_split L 0 k (Int.le_refl _) h0
  have hk : k.toNat < L.length := by unfold len at h1; omega
  have e2 : from' L k = at' L k :: from' L (k + 1) := by
    unfold from' at'
    rw [show (k + 1).toNat = k.toNat + 1 from by omega, List.drop_eq_getElem_cons hk]
    simp [hk]
  have e3 : L.find? (fun m => Lib.hasPrefix s m) = some (at' L k) := by
    conv => lhs; rw [e]
    rw [List.find?_append, h, e2, List.find?_cons, h2]; rfl
  rw [e3]; rfl
theorem NoneTo.none' {s : Str} {L : List Str} {k : Int} (h : NoneTo s L k) (hk : len L ≤ k) : (L.find? (fun m => Lib.hasPrefix s m)).getD [] = [] := by
  unfold NoneTo at h
  rw [sub_all L k hk] at h; rw [h]; rfl
end Go.Eng
