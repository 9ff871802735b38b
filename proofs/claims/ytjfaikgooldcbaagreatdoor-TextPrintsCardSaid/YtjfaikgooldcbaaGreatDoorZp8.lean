/-
  THE PLAIN FORM OF text.Parse: what a text is read as. No program in it.
  VALUES AS TREES, and the plain form of the printer. No program in it.
  THE PLAIN FORM OF text.Parse: bounds. No program in it.
  WHAT VALUES ARE RIGHT, as the document says, in plain Lean; values as trees. No program in it.
-/
import Derived.Test.YtjfaikgooldcbaaGreatDoorZp7
import Derived.Test.YtjfaikgooldcbaaGreatDoorZp6
set_option linter.unusedVariables false
set_option linter.unusedSimpArgs false
namespace Go.Eng
open Go.RowKit

/-- A value, as its nodes. -/
abbrev Vl := List Nd
def kindN (k : Int) : Nd := ⟨k, 0, [], [], false, 0⟩
def listV (l : List Vl) : Vl := ⟨5, len l, [], [], false, 0⟩ :: l.flatten
/-- A value, named. -/
def nameV (n : Str) (v : Vl) : Vl := match v with
  | [] => []
  | x :: r => { x with name := n } :: r
def laidV (l : List (Str × Vl)) : Vl := ⟨6, len l, [], [], false, 0⟩ :: (l.map fun p => nameV p.1 p.2).flatten
def getV : List (Str × Vl) → Str → Option Vl
  | [], _ => none
  | p :: l, n => if n == p.1 then some p.2 else getV l n
def putV : List (Str × Vl) → Str → Vl → List (Str × Vl)
  | [], n, v => [(n, v)]
  | p :: l, n, v => if n == p.1 then (n, v) :: l else p :: putV l n v
def sortN (l : List Str) : List Str := l.mergeSort (fun x y => decide (x ≤ y))
/-- The object of a map's pairs. -/
def objV (m : List (Str × Vl)) : Vl := laidV ((sortN (m.map (·.1))).map fun n => (n, (getV m n).getD []))
def hasW (s : Str) (i : Int) (t : Str) : Bool := Lib.hasPrefix (from' s i) t
def textT (s : Str) (i : Int) : PR Str := if (unqP (from' s i)).2.2 ≠ 0 then .er (unqP (from' s i)).2.2 (i + (unqP (from' s i)).2.1) else .ok (unqP (from' s i)).1 (i + (unqP (from' s i)).2.1)
def numT (s : Str) (i : Int) : PR Vl :=
  if (read1 (runN (from' s i))).2.2 ≠ 0 then .er (read1 (runN (from' s i))).2.2 (i + (read1 (runN (from' s i))).2.1) else .ok [(read1 (runN (from' s i))).1] (i + len (runN (from' s i)))
/-- Behind a part: the end, or a comma and more. -/
def moreT {α : Type} (s : Str) (e : Str) (r : PR α) (go : α → Int → PR α) : PR α := match r with
  | .er c p => .er c p
  | .ok x j => if hasW s (blankTo s j) e then .ok x (blankTo s j + 1) else if hasW s (blankTo s j) [44] then go x (blankTo s (blankTo s j + 1)) else .er 1 (blankTo s j)
def mapR {α β : Type} (f : α → β) : PR α → PR β
  | .er c p => .er c p
  | .ok x j => .ok (f x) j
/-- A name, a colon, a value. -/
def pairT (s : Str) (i : Int) (val : Int → PR Vl) (m : List (Str × Vl)) : PR (List (Str × Vl)) := match textT s i with
  | .er c p => .er c p
  | .ok n j => if hasW s (blankTo s j) [58] then mapR (putV m n) (val (blankTo s (blankTo s j + 1))) else .er 1 (blankTo s j)
/-- Parts, up to an end. -/
def partsT {α : Type} (s : Str) (i : Int) (e : Str) (x0 : α) (go : α → Int → PR α) : PR α :=
  if hasW s (blankTo s (i + 1)) e then .ok x0 (blankTo s (i + 1) + 1) else go x0 (blankTo s (i + 1))
mutual
def valT : Nat → Str → Int → Int → PR Vl
  | 0, _, i, _ => .er 1 i
  | f + 1, s, i, d =>
    if hasW s i [110, 117, 108, 108] then .ok [kindN 0] (i + 4)
    else if hasW s i [102, 97, 108, 115, 101] then .ok [kindN 1] (i + 5)
    else if hasW s i [116, 114, 117, 101] then .ok [kindN 2] (i + 4)
    else if i = len s then .er 1 i
    else if byteAt s i = 34 then mapR (fun x => [⟨4, 0, [], x, false, 0⟩]) (textT s i)
    else if byteAt s i = 45 ∨ isFig (byteAt s i) = true then numT s i
    else if byteAt s i ≠ 91 ∧ byteAt s i ≠ 123 then .er 1 i
    else if 128 ≤ d then .er 3 i
    else if byteAt s i = 91 then mapR listV (partsT s i [93] [] (itemsT f s d))
    else mapR objV (partsT s i [125] [] (pairsT f s d))
def itemsT : Nat → Str → Int → List Vl → Int → PR (List Vl)
  | 0, _, _, _, i => .er 1 i
  | f + 1, s, d, l, i => moreT s [93] (mapR (fun v => l ++ [v]) (valT f s i (d + 1))) (itemsT f s d)
def pairsT : Nat → Str → Int → List (Str × Vl) → Int → PR (List (Str × Vl))
  | 0, _, _, _, i => .er 1 i
  | f + 1, s, d, m, i => moreT s [125] (pairT s i (fun k => valT f s k (d + 1)) m) (pairsT f s d)
end
/-- text.Parse. -/
def parseT (s : Str) : Vl × Int × Int := match valT (2 * s.length + 2) s (blankTo s 0) 0 with
  | .er c p => ([], p, c)
  | .ok v j => if blankTo s j < len s then ([], blankTo s j, 1) else (v, 0, 0)
end Go.Eng
namespace Go.Eng
open Go.RowKit

/-- n times two blanks -/
def twoN : Nat → Str
  | 0 => []
  | n + 1 => 32 :: 32 :: twoN n
theorem twoN_len (n : Nat) : len (twoN n) = 2 * n := by
  induction n with
  | zero => rfl
  | succ n ih => rw [twoN, len_cons, len_cons, ih]; omega
inductive Tr where
  | mk (n : Nd) (ps : List Tr)
mutual
def Tr.flat : Tr → List Nd
  | .mk n ps => n :: flatL ps
def flatL : List Tr → List Nd
  | [] => []
  | t :: ts => t.flat ++ flatL ts
end
def Tr.node : Tr → Nd | .mk n _ => n
def Tr.parts : Tr → List Tr | .mk _ ps => ps
mutual
def Tr.ok : Tr → Prop
  | .mk n ps => (n.kind < 5 → ps = []) ∧ (5 ≤ n.kind → n.many = len ps) ∧ (len n.s ≤ 1099511627776 ∧ len n.name ≤ 1099511627776 ∧ -1000000 ≤ n.e ∧ n.e ≤ 1000000) ∧ okL ps
def okL : List Tr → Prop
  | [] => True
  | t :: ts => t.ok ∧ okL ts
end
mutual
def Tr.size : Tr → Nat
  | .mk _ ps => 1 + sizeL ps
def sizeL : List Tr → Nat
  | [] => 0
  | t :: ts => t.size + sizeL ts
end
mutual
theorem Tr.flat_len : (t : Tr) → t.flat.length = t.size
  | .mk n ps => by rw [Tr.flat, Tr.size, List.length_cons, flatL_len ps]; omega
theorem flatL_len : (l : List Tr) → (flatL l).length = sizeL l
  | [] => rfl
  | t :: ts => by rw [flatL, sizeL, List.length_append, Tr.flat_len t, flatL_len ts]
end
theorem sizeL_app (a b : List Tr) : sizeL (a ++ b) = sizeL a + sizeL b := by
  induction a with
  | nil => simp [sizeL]
  | cons x a ih => rw [List.cons_append, sizeL, sizeL, ih]; omega
theorem Tr.size_pos (t : Tr) : 1 ≤ t.size := by cases t; rw [Tr.size]; omega
theorem len_le_sizeL (l : List Tr) : len l ≤ sizeL l := by
  induction l with
  | nil => exact Int.le_refl _
  | cons t l ih => rw [len_cons, sizeL]; have := t.size_pos; omega
theorem Tr.ok_node {t : Tr} (h : t.ok) : len t.node.s ≤ 1099511627776 ∧ len t.node.name ≤ 1099511627776 := by
  cases t; rw [Tr.ok] at h; exact ⟨h.2.2.1.1, h.2.2.1.2.1⟩
def scalarP (n : Nd) : Str :=
  if n.kind = 0 then [110, 117, 108, 108] else if n.kind = 1 then [102, 97, 108, 115, 101] else if n.kind = 2 then [116, 114, 117, 101] else if n.kind = 3 then print1 n else quoteP n.s
def lineP (ln : Bool) (d : Int) : Str := if ln then 10 :: twoN d.toNat else []
def nameP (ln : Bool) (n : Nd) : Str := quoteP n.name ++ 58 :: (if ln then [32] else [])
theorem nameP_len (ln : Bool) (n : Nd) : len (quoteP n.name) + 1 ≤ len (nameP ln n) ∧ (ln = true → len (quoteP n.name) + 2 ≤ len (nameP ln n)) := by
  unfold nameP; rw [len_app, len_cons]
  cases ln
  · exact ⟨by simp only [Bool.false_eq_true, if_false, len_nil]; omega, fun h => by cases h⟩
  · exact ⟨by simp only [if_true, len_cons, len_nil]; omega, fun _ => by simp only [if_true, len_cons, len_nil]; omega⟩
def marksP (k : Int) : UInt8 × UInt8 := if k = 6 then (123, 125) else (91, 93)
mutual
def prt (ln : Bool) : Int → Tr → Str
  | d, .mk n ps => if n.kind < 5 then scalarP n else (marksP n.kind).1 :: prtL ln d (n.kind == 6) true ps ++ (if ps.isEmpty then [] else lineP ln d) ++ [(marksP n.kind).2]
def prtL (ln : Bool) : Int → Bool → Bool → List Tr → Str
  | _, _, _, [] => []
  | d, ob, f, t :: ts => (if f then [] else [44]) ++ (lineP ln (d + 1) ++ ((if ob then nameP ln t.node else []) ++ (prt ln (d + 1) t ++ prtL ln d ob false ts)))
end
/-- A tree stands at a place. -/
def SegAt (v : List Nd) (i : Int) (t : Tr) : Prop := 0 ≤ i ∧ ∃ pre post, v = pre ++ (t.flat ++ post) ∧ len pre = i
def SegL (v : List Nd) (i : Int) (l : List Tr) : Prop := 0 ≤ i ∧ ∃ pre post, v = pre ++ (flatL l ++ post) ∧ len pre = i
theorem SegAt.head {v : List Nd} {i : Int} {n : Nd} {ps : List Tr} (h : SegAt v i (.mk n ps)) : 0 ≤ i ∧ i < len v ∧ at' v i = n := by
  obtain ⟨h0, pre, post, rfl, rfl⟩ := h
  refine ⟨h0, ?_, ?_⟩
  · rw [Tr.flat]; unfold len; simp only [List.length_append, List.length_cons]; omega
  · rw [Tr.flat]; unfold at'; unfold len; simp
theorem SegAt.kids {v : List Nd} {i : Int} {n : Nd} {ps : List Tr} (h : SegAt v i (.mk n ps)) : SegL v (i + 1) ps := by
  obtain ⟨h0, pre, post, rfl, rfl⟩ := h
  exact ⟨by omega, pre ++ [n], post, by rw [Tr.flat]; simp, by unfold len; simp⟩
theorem SegL.first {v : List Nd} {i : Int} {t : Tr} {ts : List Tr} (h : SegL v i (t :: ts)) : SegAt v i t := by
  obtain ⟨h0, pre, post, rfl, rfl⟩ := h
  exact ⟨h0, pre, flatL ts ++ post, by rw [flatL]; simp, rfl⟩
theorem SegL.rest {v : List Nd} {i : Int} {t : Tr} {ts : List Tr} (h : SegL v i (t :: ts)) : SegL v (i + t.size) ts := by
  obtain ⟨h0, pre, post, rfl, rfl⟩ := h
  exact ⟨by omega, pre ++ t.flat, post, by rw [flatL]; simp, by unfold len; rw [List.length_append, Tr.flat_len]; omega⟩
theorem SegAt.top (t : Tr) : SegAt t.flat 0 t := ⟨Int.le_refl _, [], [], by simp, rfl⟩
theorem SegAt.node {v : List Nd} {i : Int} {t : Tr} (h : SegAt v i t) : 0 ≤ i ∧ i < len v ∧ at' v i = t.node := by cases t; exact h.head
theorem SegAt.size_le {v : List Nd} {i : Int} {t : Tr} (h : SegAt v i t) : i + t.size ≤ len v := by
  obtain ⟨h0, pre, post, rfl, rfl⟩ := h
  unfold len; simp only [List.length_append, Tr.flat_len]; omega
end Go.Eng
namespace Go.Eng
open Go.RowKit

theorem hasPrefix_le2 {s p : Str} (h : Lib.hasPrefix s p = true) : p.length ≤ s.length := by
  unfold Lib.hasPrefix at h
  exact (List.isPrefixOf_iff_prefix.1 h).length_le
theorem hasW_le {s t : Str} {i : Int} (h0 : 0 ≤ i) (h1 : i ≤ len s) (h : hasW s i t = true) : i + len t ≤ len s := by
  have h2 : t.length ≤ (from' s i).length := hasPrefix_le2 h
  have h3 := from_len s i h0 h1
  unfold len at *; omega
theorem blank_len (s : Str) (i : Int) (h0 : 0 ≤ i) (h1 : i ≤ len s) : len s - len (dropB (from' s i)) = blankTo s i := by
  have := blankTo_bd s i h0 h1
  rw [dropB_from s i h0, from_len s _ (by omega) (by omega)]; omega
theorem textT_er {s : Str} {i : Int} (h : (unqP (from' s i)).2.2 ≠ 0) : textT s i = .er (unqP (from' s i)).2.2 (i + (unqP (from' s i)).2.1) := if_pos h
theorem textT_ok {s : Str} {i : Int} (h : (unqP (from' s i)).2.2 = 0) : textT s i = .ok (unqP (from' s i)).1 (i + (unqP (from' s i)).2.1) := if_neg (by omega)
theorem numT_er {s : Str} {i : Int} (h : (read1 (runN (from' s i))).2.2 ≠ 0) : numT s i = .er (read1 (runN (from' s i))).2.2 (i + (read1 (runN (from' s i))).2.1) := if_pos h
theorem numT_ok {s : Str} {i : Int} (h : (read1 (runN (from' s i))).2.2 = 0) : numT s i = .ok [(read1 (runN (from' s i))).1] (i + len (runN (from' s i))) := if_neg (by omega)
theorem moreT_end {α : Type} {s e : Str} {x : α} {j : Int} {go : α → Int → PR α} (h : hasW s (blankTo s j) e = true) : moreT s e (.ok x j) go = .ok x (blankTo s j + 1) := if_pos h
theorem moreT_more {α : Type} {s e : Str} {x : α} {j : Int} {go : α → Int → PR α} (h : hasW s (blankTo s j) e = false) (h2 : hasW s (blankTo s j) [44] = true) : moreT s e (.ok x j) go = go x (blankTo s (blankTo s j + 1)) := by
  unfold moreT; dsimp only; rw [if_neg (by rw [h]; decide), if_pos h2]
theorem moreT_bad {α : Type} {s e : Str} {x : α} {j : Int} {go : α → Int → PR α} (h : hasW s (blankTo s j) e = false) (h2 : hasW s (blankTo s j) [44] = false) : moreT s e (.ok x j) go = .er 1 (blankTo s j) := by
  unfold moreT; dsimp only; rw [if_neg (by rw [h]; decide), if_neg (by rw [h2]; decide)]
theorem partsT_end {α : Type} {s e : Str} {i : Int} {x : α} {go : α → Int → PR α} (h : hasW s (blankTo s (i + 1)) e = true) : partsT s i e x go = .ok x (blankTo s (i + 1) + 1) := if_pos h
theorem partsT_go {α : Type} {s e : Str} {i : Int} {x : α} {go : α → Int → PR α} (h : hasW s (blankTo s (i + 1)) e = false) : partsT s i e x go = go x (blankTo s (i + 1)) := if_neg (by rw [h]; decide)
theorem pairT_txt1 {s : Str} {i : Int} {val : Int → PR Vl} {m : List (Str × Vl)} {ec p : Int} (h : textT s i = .er ec p) : pairT s i val m = .er ec p := by unfold pairT; rw [h]
theorem pairT_bad {s : Str} {i : Int} {val : Int → PR Vl} {m : List (Str × Vl)} {n : Str} {j : Int} (h : textT s i = .ok n j) (h2 : hasW s (blankTo s j) [58] = false) : pairT s i val m = .er 1 (blankTo s j) := by
  unfold pairT; rw [h]; dsimp only; rw [if_neg (by rw [h2]; decide)]
theorem pairT_val {s : Str} {i : Int} {val : Int → PR Vl} {m : List (Str × Vl)} {n : Str} {j : Int} (h : textT s i = .ok n j) (h2 : hasW s (blankTo s j) [58] = true) : pairT s i val m = mapR (putV m n) (val (blankTo s (blankTo s j + 1))) := by
  unfold pairT; rw [h]; dsimp only; rw [if_pos h2]
def wordsT : List Str := [[110, 117, 108, 108], [102, 97, 108, 115, 101], [116, 114, 117, 101]]
def NoW (s : Str) (i k : Int) : Prop := ∀ m, 0 ≤ m → m < k → hasW s i (at' wordsT m) = false
theorem NoW.step {s : Str} {i k : Int} (h : NoW s i k) (h2 : hasW s i (at' wordsT k) = false) : NoW s i (k + 1) := fun m h0 h1 => by
  by_cases hm : m = k
  · subst hm; exact h2
  · exact h m h0 (by omega)
theorem valT_word {s : Str} {i k d : Int} {f : Nat} (h0 : 0 ≤ k) (h3 : k < 3) (h : NoW s i k) (h2 : hasW s i (at' wordsT k) = true) : valT (f + 1) s i d = .ok [kindN k] (i + len (at' wordsT k)) := by
  rw [valT]
  rcases (by omega : k = 0 ∨ k = 1 ∨ k = 2) with rfl | rfl | rfl
  · rw [if_pos (show hasW s i [110, 117, 108, 108] = true from h2)]; rfl
  · rw [if_neg (by rw [show hasW s i [110, 117, 108, 108] = false from h 0 (by omega) (by omega)]; decide), if_pos (show hasW s i [102, 97, 108, 115, 101] = true from h2)]; rfl
  · rw [if_neg (by rw [show hasW s i [110, 117, 108, 108] = false from h 0 (by omega) (by omega)]; decide), if_neg (by rw [show hasW s i [102, 97, 108, 115, 101] = false from h 1 (by omega) (by omega)]; decide), if_pos (show hasW s i [116, 114, 117, 101] = true from h2)]; rfl
theorem valT_go {s : Str} {i : Int} (f : Nat) (d : Int) (h : NoW s i 3) : valT (f + 1) s i d =
    if i = len s then .er 1 i
    else if byteAt s i = 34 then mapR (fun x => [⟨4, 0, [], x, false, 0⟩]) (textT s i)
    else if byteAt s i = 45 ∨ isFig (byteAt s i) = true then numT s i
    else if byteAt s i ≠ 91 ∧ byteAt s i ≠ 123 then .er 1 i
    else if 128 ≤ d then .er 3 i
    else if byteAt s i = 91 then mapR listV (partsT s i [93] [] (itemsT f s d))
    else mapR objV (partsT s i [125] [] (pairsT f s d)) := by
  rw [valT, if_neg (by rw [show hasW s i [110, 117, 108, 108] = false from h 0 (by omega) (by omega)]; decide), if_neg (by rw [show hasW s i [102, 97, 108, 115, 101] = false from h 1 (by omega) (by omega)]; decide), if_neg (by rw [show hasW s i [116, 114, 117, 101] = false from h 2 (by omega) (by omega)]; decide)]
theorem words_len (k : Int) (h0 : 0 ≤ k) (h3 : k < 3) : 4 ≤ len (at' wordsT k) ∧ len (at' wordsT k) ≤ 5 := by
  rcases (by omega : k = 0 ∨ k = 1 ∨ k = 2) with rfl | rfl | rfl <;> decide
theorem index_fig (x : Int) (h : 0 ≤ x ∧ x ≤ 255) : (0 ≤ Lib.indexByte [48, 49, 50, 51, 52, 53, 54, 55, 56, 57] x.toNat.toUInt8) ↔ isFig x = true := by
  have key : ∀ n : Fin 256, (0 ≤ Lib.indexByte [48, 49, 50, 51, 52, 53, 54, 55, 56, 57] (n.val).toUInt8) ↔ isFig (n.val : Int) = true := by decide +kernel
  have := key ⟨x.toNat, by omega⟩
  dsimp only at this
  rw [show ((x.toNat : Nat) : Int) = x from by omega] at this
  exact this
/-- A number's run, where a figure or a minus stands, is not empty. -/
theorem runN_pos {s : Str} {i : Int} (h0 : 0 ≤ i) (h1 : i < len s) (h : byteAt s i = 45 ∨ isFig (byteAt s i) = true) : 1 ≤ len (Eng.runN (from' s i)) := by
  obtain ⟨b, h2, h3⟩ := from_cons s i h0 h1
  rw [runN_take, h2, List.takeWhile_cons, if_pos]
  · rw [len_cons]; have := len_nonneg ((from' s (i + 1)).takeWhile isNumB); omega
  · have key : ∀ n : Fin 256, ((n.val : Int) = 45 ∨ isFig (n.val : Int) = true) → isNumB (n.val).toUInt8 = true := by decide +kernel
    have hb := key ⟨b.toNat, b.toNat_lt⟩ (by rw [← h3]; exact h)
    simpa using hb
theorem numT_j {s : Str} {i : Int} {x : Vl} {j : Int} (h : numT s i = .ok x j) : len x = 1 ∧ j = i + len (Eng.runN (from' s i)) := by
  unfold numT at h
  split at h
  · cases h
  · cases h; exact ⟨rfl, rfl⟩
/-- The object of names and parts, up to the k-th. -/
def laidTo (ns : List Str) (xs : List Vl) (k : Int) : Vl := ⟨6, len xs, [], [], false, 0⟩ :: (((ns.zip xs).take k.toNat).map fun p => nameV p.1 p.2).flatten
theorem nameV_len (n : Str) (x : Vl) : len (nameV n x) = len x := by cases x <;> rfl
theorem zip_at {ns : List Str} {xs : List Vl} {k : Int} (h0 : 0 ≤ k) (h1 : k < len xs) (h2 : len ns = len xs) : (ns.zip xs)[k.toNat]? = some (at' ns k, at' xs k) := by
  unfold len at h1 h2
  have e1 : k.toNat < ns.length := by omega
  have e2 : k.toNat < xs.length := by omega
  rw [List.getElem?_zip_eq_some]
  exact ⟨by simp [at', e1], by simp [at', e2]⟩
theorem laidTo_step {ns : List Str} {xs : List Vl} {k : Int} (h0 : 0 ≤ k) (h1 : k < len xs) (h2 : len ns = len xs) : laidTo ns xs (k + 1) = laidTo ns xs k ++ nameV (at' ns k) (at' xs k) := by
  unfold laidTo
  rw [show (k + 1).toNat = k.toNat + 1 from by omega, List.take_add_one, zip_at h0 h1 h2]
  simp
theorem set_name (l x : Vl) (n : Str) (hx : x ≠ []) : (l ++ x).set (len l : Int).toNat { at' (l ++ x) (len l) with name := n } = l ++ nameV n x := by
  cases x with
  | nil => exact absurd rfl hx
  | cons y r =>
    have e : at' (l ++ y :: r) (len l) = y := by unfold at' len; simp
    rw [e]; unfold len; simp [nameV]
theorem laidTo_le : ∀ (ns : List Str) (xs : List Vl) (k : Int), len (laidTo ns xs k) ≤ 1 + len xs.flatten := by
  intro ns xs k
  unfold laidTo
  have key : ∀ (l : List (Str × Vl)), len (l.map fun p => nameV p.1 p.2).flatten = len (l.map (·.2)).flatten := by
    intro l
    induction l with
    | nil => rfl
    | cons p l ih => simp only [List.map_cons, List.flatten_cons, len_app, nameV_len, ih]
  have pre : ∀ (ns : List Str) (xs : List Vl) (j : Nat), len (((ns.zip xs).take j).map (·.2)).flatten ≤ len xs.flatten := by
    intro ns
    induction ns with
    | nil => intro xs j; simp; exact len_nonneg _
    | cons n ns ih =>
      intro xs j
      cases xs with
      | nil => simp
      | cons x xs =>
        cases j with
        | zero => simp only [List.take_zero, List.map_nil, List.flatten_nil]; exact len_nonneg _
        | succ j =>
          have := ih xs j
          simp only [List.zip_cons_cons, List.take_succ_cons, List.map_cons, List.flatten_cons, len_app]; omega
  rw [len_cons, key]
  have := pre ns xs k.toNat
  omega
/-- The first k lists, one behind the other. -/
def flatTo {α : Type} (xs : List (List α)) (k : Int) : List α := (xs.take k.toNat).flatten
theorem flatTo_step {α : Type} {xs : List (List α)} {k : Int} (h0 : 0 ≤ k) (h1 : k < len xs) : flatTo xs (k + 1) = flatTo xs k ++ at' xs k := by
  have hk : k.toNat < xs.length := by unfold len at h1; omega
  unfold flatTo at'
  rw [show (k + 1).toNat = k.toNat + 1 from by omega, List.take_add_one, List.flatten_append]
  simp [hk]
theorem flatTo_end {α : Type} {xs : List (List α)} {k : Int} (h : len xs ≤ k) : flatTo xs k = xs.flatten := by
  unfold flatTo; rw [List.take_of_length_le (by unfold len at h; omega)]
theorem flatTo_le {α : Type} (xs : List (List α)) (k : Int) : len (flatTo xs k) ≤ len xs.flatten := by
  have h : (xs.take k.toNat).flatten ++ (xs.drop k.toNat).flatten = xs.flatten := by rw [← List.flatten_append, List.take_append_drop]
  unfold flatTo
  rw [← h, len_app]; have := len_nonneg (xs.drop k.toNat).flatten; omega
theorem runN_le (s : Str) : 0 ≤ len (runN s) ∧ len (runN s) ≤ len s := by
  have := dropN_len s
  unfold runN; rw [sub_len (Int.le_refl 0) (by omega) (by omega)]; omega
end Go.Eng
namespace Go.Eng
open Go.RowKit

/-- A node, whatever its name. -/
def bareN (n : Nd) : Nd := { n with name := [] }
def plainB (n : Nd) : Bool :=
  if n.kind = 0 ∨ n.kind = 1 ∨ n.kind = 2 then decide (bareN n = ⟨n.kind, 0, [], [], false, 0⟩)
  else if n.kind = 3 then right1 (bareN n)
  else if n.kind = 4 then utf n.s && decide (bareN n = ⟨n.kind, 0, [], n.s, false, 0⟩)
  else if n.kind = 5 ∨ n.kind = 6 then decide (0 ≤ n.many) && decide (bareN n = ⟨n.kind, n.many, [], [], false, 0⟩)
  else false
/-- The place behind so many values; below 0: there is none. -/
def nextF : Nat → Vl → Int → Int → Int
  | 0, _, _, _ => -1
  | f + 1, v, op, i => if op ≤ 0 then i else if len v ≤ i ∨ (at' v i).many < 0 ∨ len v < (at' v i).many then -1 else nextF f v (op - 1 + (at' v i).many) (i + 1)
def nextV (v : Vl) (i : Int) : Int := nextF (v.length + 2) v 1 i
def risF : Nat → Vl → Int → Int → Int → Bool
  | 0, _, _, _, _ => true
  | f + 1, v, a, k, i =>
    if ((at' v a).kind = 5 ∧ (at' v i).name ≠ []) ∨ utf (at' v i).name = false then false
    else if (at' v a).kind = 6 ∧ k + 1 < (at' v a).many ∧ Op.bytesLess (at' v i).name (at' v (nextV v i)).name = false then false
    else risF f v a (k + 1) (nextV v i)
def risB (v : Vl) (a : Int) : Bool := risF (at' v a).many.toNat v a 0 (a + 1)
/-- From a place on, are all nodes right? -/
def allF : Nat → Vl → Int → Bool
  | 0, _, _ => true
  | f + 1, v, i => if len v ≤ i then true else if plainB (at' v i) = false ∨ risB v i = false then false else allF f v (i + 1)
def rightB (v : Vl) : Bool := if v = [] ∨ (at' v 0).name ≠ [] ∨ nextV v 0 ≠ len v then false else allF (v.length + 1) v 0
/-! ### trees -/
mutual
def Tr.wf : Tr → Prop
  | .mk n ps => n.many = len ps ∧ wfL ps
def wfL : List Tr → Prop
  | [] => True
  | t :: ts => t.wf ∧ wfL ts
end
theorem wfL_app {a b : List Tr} : wfL (a ++ b) ↔ wfL a ∧ wfL b := by
  induction a with
  | nil => simp [wfL]
  | cons x a ih => rw [List.cons_append, wfL, wfL, ih, and_assoc]
theorem flatL_app (a b : List Tr) : flatL (a ++ b) = flatL a ++ flatL b := by
  induction a with
  | nil => simp [flatL]
  | cons x a ih => rw [List.cons_append, flatL, flatL, ih, List.append_assoc]
theorem SegL.le {v : List Nd} {i : Int} {l : List Tr} (h : SegL v i l) : i + sizeL l ≤ len v := by
  obtain ⟨h0, pre, post, rfl, rfl⟩ := h
  unfold len; simp only [List.length_append, flatL_len]; omega
theorem SegL.kids {v : List Nd} {i : Int} {n : Nd} {ps ts : List Tr} (h : SegL v i (.mk n ps :: ts)) : SegL v (i + 1) (ps ++ ts) := by
  obtain ⟨h0, pre, post, rfl, rfl⟩ := h
  exact ⟨by omega, pre ++ [n], post, by rw [flatL, Tr.flat, flatL_app]; simp, by unfold len; simp⟩
theorem SegL.one {v : List Nd} {i : Int} {t : Tr} (h : SegAt v i t) : SegL v i [t] := by
  obtain ⟨h0, pre, post, rfl, rfl⟩ := h
  exact ⟨h0, pre, post, by simp [flatL], rfl⟩
theorem SegL.skip {v : List Nd} {i : Int} {a b : List Tr} (h : SegL v i (a ++ b)) : SegL v (i + sizeL a) b := by
  obtain ⟨h0, pre, post, rfl, rfl⟩ := h
  exact ⟨by omega, pre ++ flatL a, post, by rw [flatL_app]; simp, by unfold len; rw [List.length_append, flatL_len]; omega⟩
theorem nextF_done {f : Nat} {v : Vl} {op i : Int} (h : op ≤ 0) : nextF (f + 1) v op i = i := by rw [nextF, if_pos h]
theorem nextF_seg {v : Vl} : ∀ (n : Nat) (ts : List Tr) (f : Nat) (op i : Int), sizeL ts = n → wfL ts → SegL v i ts → 0 ≤ op → nextF (f + n) v (op + len ts) i = nextF f v op (i + n) := by
  intro n
  induction n with
  | zero =>
    intro ts f op i hn hw hs ho
    cases ts with
    | nil => simp [len]
    | cons t ts => rw [sizeL] at hn; have := t.size_pos; omega
  | succ n ih =>
    intro ts f op i hn hw hs ho
    cases ts with
    | nil => rw [sizeL] at hn; omega
    | cons t ts =>
      obtain ⟨n0, ps⟩ := t
      have h1 := hs.first.head
      have hle := hs.le
      rw [wfL, Tr.wf] at hw
      have hps := len_le_sizeL ps
      have hp0 := len_nonneg ps
      have hk := hs.kids
      rw [sizeL, Tr.size] at hn hle
      rw [show f + (n + 1) = (f + n) + 1 by omega, nextF, if_neg (by rw [len_cons]; have := len_nonneg ts; omega), h1.2.2, if_neg (by omega), hw.1.1]
      have := ih (ps ++ ts) f op (i + 1) (by rw [sizeL_app]; omega) (wfL_app.2 ⟨hw.1.2, hw.2⟩) hk ho
      rw [len_app] at this
      rw [len_cons, show op + (len ts + 1) - 1 + len ps = op + (len ps + len ts) by omega, this]
      congr 1; omega
theorem nextV_seg {v : Vl} {i : Int} {t : Tr} (h : SegAt v i t) (hw : t.wf) : nextV v i = i + t.size := by
  have hs := SegL.one h
  have hle := hs.le
  have := h.1
  have hsz : sizeL [t] = t.size := by simp [sizeL]
  obtain ⟨f, hf⟩ : ∃ f, v.length + 2 = (f + 1) + t.size := ⟨v.length + 1 - t.size, by unfold len at hle; omega⟩
  unfold nextV
  rw [hf]
  have := nextF_seg t.size [t] (f + 1) 0 i hsz ⟨hw, trivial⟩ hs (by omega)
  rw [show (0 : Int) + len [t] = 1 from rfl] at this
  rw [this, nextF_done (by omega)]
theorem seg_next {v : Vl} : ∀ (f : Nat) (op i j : Int), nextF f v op i = j → j ≠ -1 → 0 ≤ i → i ≤ len v → 0 ≤ op → ∃ ts, len ts = op ∧ wfL ts ∧ SegL v i ts ∧ j = i + sizeL ts
  | 0, op, i, j, h, hj, _, _, _ => by rw [nextF] at h; omega
  | f + 1, op, i, j, h, hj, h0, h1, ho => by
    rw [nextF] at h
    split at h
    · refine ⟨[], by rw [len_nil]; omega, trivial, ⟨h0, v.take i.toNat, v.drop i.toNat, by simp [flatL], by unfold len at *; rw [List.length_take]; omega⟩, by simp [sizeL]; omega⟩
    · split at h
      · omega
      · rename_i hb
        have hlt : i < len v := by omega
        obtain ⟨ts, e1, e2, e3, e4⟩ := seg_next f _ _ j h hj (by omega) (by omega) (by omega)
        have hmn : (at' v i).many.toNat ≤ ts.length := by unfold len at e1; omega
        refine ⟨.mk (at' v i) (ts.take (at' v i).many.toNat) :: ts.drop (at' v i).many.toNat, ?_, ?_, ?_, ?_⟩
        · rw [len_cons]; unfold len at *; rw [List.length_drop]; omega
        · have := List.take_append_drop (at' v i).many.toNat ts
          rw [← this, wfL_app] at e2
          rw [wfL, Tr.wf]
          exact ⟨⟨by unfold len; rw [List.length_take]; omega, e2.1⟩, e2.2⟩
        · obtain ⟨_, pre, post, hv, hp⟩ := e3
          refine ⟨h0, v.take i.toNat, post, ?_, by unfold len at *; rw [List.length_take]; omega⟩
          rw [flatL, Tr.flat, List.cons_append, ← flatL_app, List.take_append_drop]
          have hpre : pre = v.take (i.toNat + 1) := by
            have : pre = v.take pre.length := by rw [hv]; simp
            rw [this]; congr 1; unfold len at hp; omega
          have hi : i.toNat < v.length := by unfold len at hlt; omega
          have h4 : v.take (i.toNat + 1) = v.take i.toNat ++ [at' v i] := by
            rw [List.take_add_one, List.getElem?_eq_getElem hi]; simp [at', List.getD_eq_getElem?_getD, hi]
          rw [hpre, h4] at hv
          calc v = (v.take i.toNat ++ [at' v i]) ++ (flatL ts ++ post) := hv
            _ = _ := by simp
        · rw [e4, sizeL, Tr.size]
          have := sizeL_app (ts.take (at' v i).many.toNat) (ts.drop (at' v i).many.toNat)
          rw [List.take_append_drop] at this
          omega
/-- What has its place behind it is a tree. -/
theorem tree_of_next {v : Vl} (h : nextV v 0 = len v) (hne : v ≠ []) : ∃ t : Tr, t.wf ∧ v = t.flat := by
  have hl := len_nonneg v
  obtain ⟨ts, e1, e2, e3, e4⟩ := seg_next _ _ _ _ h (by omega) (Int.le_refl _) hl (by omega)
  cases ts with
  | nil => rw [len_nil] at e1; omega
  | cons t ts =>
    cases ts with
    | cons u us => rw [len_cons, len_cons] at e1; have := len_nonneg us; omega
    | nil =>
      refine ⟨t, e2.1, ?_⟩
      obtain ⟨_, pre, post, hv, hp⟩ := e3
      have h1 : pre = [] := List.eq_nil_of_length_eq_zero (by unfold len at hp; omega)
      have h2 : post = [] := by
        refine List.eq_nil_of_length_eq_zero ?_
        have := congrArg List.length hv
        simp only [List.length_append, flatL_len] at this
        unfold len at e4; omega
      rw [hv, h1, h2]; simp [flatL]
/-- At each place of a tree stands one. -/
theorem seg_at {v : Vl} : ∀ (n : Nat) (ts : List Tr) (i0 i : Int), sizeL ts = n → wfL ts → SegL v i0 ts → i0 ≤ i → i < i0 + n → ∃ t, SegAt v i t ∧ t.wf := by
  intro n
  induction n with
  | zero => intro ts i0 i hn _ _ h1 h2; omega
  | succ n ih =>
    intro ts i0 i hn hw hs h1 h2
    cases ts with
    | nil => rw [sizeL] at hn; omega
    | cons t ts =>
      rcases Int.lt_or_eq_of_le h1 with hlt | rfl
      · obtain ⟨n0, ps⟩ := t
        rw [wfL, Tr.wf] at hw
        rw [sizeL, Tr.size] at hn
        exact ih (ps ++ ts) (i0 + 1) i (by rw [sizeL_app]; omega) (wfL_app.2 ⟨hw.1.2, hw.2⟩) hs.kids (by omega) (by omega)
      · exact ⟨t, hs.first, hw.1⟩
theorem wf_kids {v : Vl} {a : Int} {t : Tr} (ht : SegAt v a t) (hw : t.wf) : (∃ us, len us = (at' v a).many - 0 ∧ wfL us ∧ SegL v (a + 1) us) ∧ 0 ≤ (at' v a).many ∧ (at' v a).many ≤ len v := by
  obtain ⟨n0, ps⟩ := t
  rw [Tr.wf] at hw
  have h3 := ht.kids.le
  have := len_le_sizeL ps
  have := len_nonneg ps
  have h0 := ht.1
  rw [ht.head.2.2]
  exact ⟨⟨ps, by omega, hw.2, ht.kids⟩, by omega, by omega⟩
theorem seg_to {v : Vl} {i : Int} {us : List Tr} (hs : SegL v i us) (h : 0 < len us) : 0 ≤ i ∧ i < len v := by
  cases us with
  | nil => rw [len_nil] at h; omega
  | cons u us => have := hs.first.node; exact ⟨this.1, this.2.1⟩
theorem ris_n2 {p q : Prop} {b : Bool} (h : (¬ p ∨ q) ∧ b = true) : ¬ ((p ∧ ¬ q) ∨ b = false) := by
  rintro (⟨h1, h2⟩ | h1)
  · exact h.1.elim (fun h3 => h3 h1) h2
  · rw [h.2] at h1; cases h1
theorem ris_p3 {p q : Prop} {b : Bool} (h : (p ∧ q) ∧ b = false) : p ∧ q ∧ b = false := ⟨h.1.1, h.1.2, h.2⟩
theorem ris_n3 {p : Prop} {x y : Int} {b : Bool} (h : (¬ p ∨ y ≤ x) ∨ b = true) : ¬ (p ∧ x < y ∧ b = false) := by
  rintro ⟨h1, h2, h3⟩
  rcases h with (h | h) | h
  · exact h h1
  · omega
  · rw [h] at h3; cases h3
theorem Tr.seg_at {t : Tr} (hw : t.wf) {i : Int} (h0 : 0 ≤ i) (h1 : i < len t.flat) : ∃ u, SegAt t.flat i u ∧ u.wf :=
  Eng.seg_at t.size [t] 0 i (by simp [sizeL]) ⟨hw, trivial⟩ (SegL.one (SegAt.top t)) h0 (by unfold len at h1; rw [Tr.flat_len] at h1; omega)
theorem len_zero {α : Type} {v : List α} : len v = 0 ↔ v = [] := by
  cases v with
  | nil => simp [len]
  | cons a v => rw [len_cons]; have := len_nonneg v; constructor; · intro h; omega
                · intro h; cases h
theorem right_p {v : Vl} (h : (len v = 0 ∨ ¬ (at' v 0).name = []) ∨ ¬ nextV v 0 = len v) : v = [] ∨ (at' v 0).name ≠ [] ∨ nextV v 0 ≠ len v := by
  rcases h with (h | h) | h
  · exact .inl (len_zero.1 h)
  · exact .inr (.inl h)
  · exact .inr (.inr h)
theorem right_n {v : Vl} (h : (¬ len v = 0 ∧ (at' v 0).name = []) ∧ nextV v 0 = len v) : ¬ (v = [] ∨ (at' v 0).name ≠ [] ∨ nextV v 0 ≠ len v) := by
  rintro (h1 | h1 | h1)
  · exact h.1.1 (len_zero.2 h1)
  · exact h1 h.1.2
  · exact h1 h.2
theorem right_t {v : Vl} (h : (¬ len v = 0 ∧ (at' v 0).name = []) ∧ nextV v 0 = len v) : ∃ t : Tr, t.wf ∧ v = t.flat := tree_of_next h.2 (fun e => h.1.1 (len_zero.2 e))
theorem all_p {a b : Bool} (h : a = false ∨ b = false) : a = false ∨ b = false := h
theorem all_n {a b : Bool} (h : a = true ∧ b = true) : ¬ (a = false ∨ b = false) := by
  rw [h.1, h.2]; rintro (h | h) <;> cases h
/-! ### parts, names, depth -/
def Tr.named (x : Str) : Tr → Tr | .mk n ps => .mk { n with name := x } ps
theorem Tr.named_flat (x : Str) (t : Tr) : (t.named x).flat = nameV x t.flat := by cases t; rfl
theorem Tr.named_wf {x : Str} {t : Tr} (h : t.wf) : (t.named x).wf := by cases t; exact h
theorem Tr.named_size (x : Str) (t : Tr) : (t.named x).size = t.size := by cases t; rfl
def kidsV (t : Tr) : List Vl := t.parts.map fun u => (u.named []).flat
def kidNs (t : Tr) : List Str := if t.node.kind = 6 then t.parts.map (·.node.name) else []
mutual
def depthT : Tr → Int
  | .mk n ps => if n.kind ≠ 5 ∧ n.kind ≠ 6 then 0 else depthL ps + 1
def depthL : List Tr → Int
  | [] => 0
  | t :: ts => max (depthT t) (depthL ts)
end
theorem depthT_named (x : Str) (t : Tr) : depthT (t.named x) = depthT t := by cases t; rfl
theorem depthL_app (a b : List Tr) : depthL (a ++ b) = max (depthL a) (depthL b) := by
  induction a with
  | nil =>
    have : 0 ≤ depthL b := by
      cases b with
      | nil => exact Int.le_refl _
      | cons t ts =>
        suffices h : ∀ l : List Tr, 0 ≤ depthL l from h _
        intro l; induction l with
        | nil => exact Int.le_refl _
        | cons t l ih => rw [depthL]; omega
    rw [List.nil_append, depthL]; omega
  | cons t a ih => rw [List.cons_append, depthL, depthL, ih]; omega
theorem depthL_nonneg : ∀ l : List Tr, 0 ≤ depthL l
  | [] => Int.le_refl _
  | t :: l => by rw [depthL]; have := depthL_nonneg l; omega
theorem depthT_le : ∀ (n : Nat) (t : Tr), t.size = n → 0 ≤ depthT t ∧ depthT t ≤ t.size := by
  intro n
  induction n using Nat.strongRecOn with
  | _ n ih =>
    intro t hn
    obtain ⟨nd, ps⟩ := t
    have key : ∀ l : List Tr, sizeL l < n → depthL l ≤ sizeL l := by
      intro l
      induction l with
      | nil => intro _; exact Int.le_refl _
      | cons t l ihl =>
        intro hl
        rw [sizeL] at hl
        have h1 := ih t.size (by omega) t rfl
        have h2 := ihl (by omega)
        have := t.size_pos
        rw [depthL, sizeL]; omega
    rw [Tr.size] at hn
    have h1 := key ps (by omega)
    have h0 := depthL_nonneg ps
    rw [depthT, Tr.size]
    split <;> omega
theorem own_eq {x : Vl} (h : x ≠ []) : (([] : List Nd) ++ x).set (0 : Int).toNat { at' (([] : List Nd) ++ x) 0 with name := [] } = nameV [] x := by
  cases x with
  | nil => exact absurd rfl h
  | cons a x => rfl
theorem seg_sub {v : Vl} {i : Int} {t : Tr} (h : SegAt v i t) : Eng.sub v i (i + t.size) = t.flat := by
  obtain ⟨h0, pre, post, rfl, rfl⟩ := h
  unfold Eng.sub len
  have : (Int.toNat ((pre.length : Int) + t.size)) - (Int.toNat (pre.length : Int)) = t.flat.length := by rw [Tr.flat_len]; omega
  simp only [Int.toNat_natCast] at *
  rw [List.drop_left, this, List.take_left]
theorem Tr.flat_ne (t : Tr) : t.flat ≠ [] := by cases t; rw [Tr.flat]; intro h; cases h
theorem Tr.seg_kids {t : Tr} : SegL t.flat 1 t.parts := by
  obtain ⟨n, ps⟩ := t
  exact (SegAt.top (.mk n ps)).kids
theorem Tr.at0 (t : Tr) : at' t.flat 0 = t.node := (SegAt.top t).node.2.2
theorem Tr.many_eq {t : Tr} (h : t.wf) : t.node.many = len t.parts := by cases t; exact h.1
theorem Tr.parts_wf {t : Tr} (h : t.wf) : wfL t.parts := by cases t; exact h.2
theorem Tr.size_eq (t : Tr) : t.size = 1 + sizeL t.parts := by cases t; rfl
/-- The first so many parts. -/
def kidsTo (t : Tr) (k : Int) : List Vl := (kidsV t).take k.toNat
theorem kidsTo_len {t : Tr} {k : Int} (h0 : 0 ≤ k) (h1 : k ≤ len t.parts) : ((kidsTo t k).length : Int) = k := by
  unfold kidsTo kidsV; rw [List.length_take, List.length_map]; unfold len at h1; omega
theorem kidsTo_end {t : Tr} {k : Int} (h1 : len t.parts ≤ k) : kidsTo t k = kidsV t := by
  unfold kidsTo; rw [List.take_of_length_le]; unfold kidsV; rw [List.length_map]; unfold len at h1; omega
theorem wfL_drop {l : List Tr} (h : wfL l) (n : Nat) : wfL (l.drop n) := by
  have := List.take_append_drop n l
  rw [← this, wfL_app] at h; exact h.2
/-- The next part. -/
theorem kid_step {t : Tr} (hw : t.wf) {k i : Int} (h0 : 0 ≤ k) (h1 : k < len t.parts) (hs : SegL t.flat i (t.parts.drop k.toNat)) :
    ∃ u, u.wf ∧ SegAt t.flat i u ∧ nextV t.flat i = i + u.size ∧ SegL t.flat (i + u.size) (t.parts.drop (k + 1).toNat) ∧ kidsTo t (k + 1) = kidsTo t k ++ [nameV [] (Eng.sub t.flat i (nextV t.flat i))] ∧ nameV [] (Eng.sub t.flat i (nextV t.flat i)) = (u.named []).flat ∧ u ∈ t.parts ∧ t.parts[k.toNat]? = some u := by
  have hk : k.toNat < t.parts.length := by unfold len at h1; omega
  have e : t.parts.drop k.toNat = t.parts[k.toNat] :: t.parts.drop (k + 1).toNat := by
    rw [show (k + 1).toNat = k.toNat + 1 by omega]; exact List.drop_eq_getElem_cons hk
  have hwd := wfL_drop (Tr.parts_wf hw) k.toNat
  rw [e] at hs hwd
  have hn := nextV_seg hs.first hwd.1
  have he : nameV [] (Eng.sub t.flat i (nextV t.flat i)) = ((t.parts[k.toNat]).named []).flat := by rw [hn, seg_sub hs.first, Tr.named_flat]
  refine ⟨t.parts[k.toNat], hwd.1, hs.first, hn, hs.rest, ?_, he, List.getElem_mem hk, List.getElem?_eq_getElem hk⟩
  rw [he]
  unfold kidsTo kidsV
  rw [show (k + 1).toNat = k.toNat + 1 by omega, List.take_add_one, List.getElem?_map, List.getElem?_eq_getElem hk]; rfl
def namesTo (t : Tr) (k : Int) : List Str := (t.parts.map (·.node.name)).take k.toNat
theorem namesTo_step {t : Tr} {k : Int} {u : Tr} (h0 : 0 ≤ k) (h : t.parts[k.toNat]? = some u) : namesTo t (k + 1) = namesTo t k ++ [u.node.name] := by
  unfold namesTo
  rw [show (k + 1).toNat = k.toNat + 1 by omega, List.take_add_one, List.getElem?_map, h]; rfl
theorem namesTo_end {t : Tr} {k : Int} (h1 : len t.parts ≤ k) (h6 : t.node.kind = 6) : namesTo t k = kidNs t := by
  unfold namesTo kidNs; rw [if_pos h6, List.take_of_length_le]; rw [List.length_map]; unfold len at h1; omega
theorem namesTo_len {t : Tr} {k : Int} (h0 : 0 ≤ k) (h1 : k ≤ len t.parts) : len (namesTo t k) = k := by
  unfold namesTo len; rw [List.length_take, List.length_map]; unfold len at h1; omega
theorem namesTo_no {t : Tr} {k : Int} (h1 : k = 0) (h6 : ¬ t.node.kind = 6) : namesTo t k = kidNs t := by
  subst h1; unfold namesTo kidNs; rw [if_neg h6]; rfl
def depTo (t : Tr) (k : Int) : Int := depthL (t.parts.take k.toNat)
theorem depTo_step {t : Tr} {k : Int} {u : Tr} (h0 : 0 ≤ k) (h : t.parts[k.toNat]? = some u) : depTo t (k + 1) = max (depTo t k) (depthT (u.named [])) := by
  unfold depTo
  have hu := depthT_le _ u rfl
  rw [show (k + 1).toNat = k.toNat + 1 by omega, List.take_add_one, h, depthL_app]
  show max _ (depthL [u]) = _
  rw [depthL, depthL, depthT_named]; omega
theorem depTo_end {t : Tr} {k : Int} (h1 : len t.parts ≤ k) : depTo t k = depthL t.parts := by
  unfold depTo; rw [List.take_of_length_le]; unfold len at h1; omega
theorem depTo_nonneg (t : Tr) (k : Int) : 0 ≤ depTo t k := depthL_nonneg _
theorem depthL_le : ∀ l : List Tr, depthL l ≤ sizeL l
  | [] => Int.le_refl _
  | t :: l => by rw [depthL, sizeL]; have := depthL_le l; have := depthT_le _ t rfl; omega
theorem sizeL_take (l : List Tr) (n : Nat) : sizeL (l.take n) ≤ sizeL l := by
  have := sizeL_app (l.take n) (l.drop n); rw [List.take_append_drop] at this; omega
theorem depTo_le (t : Tr) (k : Int) : depTo t k ≤ t.size := by
  unfold depTo; have h1 := depthL_le (t.parts.take k.toNat); have h2 := sizeL_take t.parts k.toNat; rw [Tr.size_eq]; omega
theorem depthT_no {t : Tr} (h : t.node.kind ≠ 5 ∧ t.node.kind ≠ 6) : depthT t = 0 := by obtain ⟨n, ps⟩ := t; rw [depthT]; exact if_pos h
theorem depthT_yes {t : Tr} (h : ¬ (t.node.kind ≠ 5 ∧ t.node.kind ≠ 6)) : depthT t = depthL t.parts + 1 := by obtain ⟨n, ps⟩ := t; rw [depthT]; exact if_neg h
theorem sizeL_mem {u : Tr} : ∀ {l : List Tr}, u ∈ l → u.size ≤ sizeL l
  | t :: l, h => by
    rw [sizeL]
    rcases List.mem_cons.1 h with rfl | h
    · omega
    · have := sizeL_mem h; omega
theorem kidsV_at {t : Tr} {k : Int} (h0 : 0 ≤ k) (h1 : k < len t.parts) (hw : t.wf) : ∃ u, at' (kidsV t) k = (u.named []).flat ∧ t.parts[k.toNat]? = some u ∧ u.wf ∧ u.size < t.size := by
  have hk : k.toNat < t.parts.length := by unfold len at h1; omega
  refine ⟨t.parts[k.toNat], ?_, List.getElem?_eq_getElem hk, ?_, ?_⟩
  · unfold kidsV at'; rw [List.getD_eq_getElem?_getD, List.getElem?_map, List.getElem?_eq_getElem hk]; rfl
  · have := wfL_drop (Tr.parts_wf hw) k.toNat
    rw [List.drop_eq_getElem_cons hk] at this; exact this.1
  · have := sizeL_mem (List.getElem_mem hk); rw [Tr.size_eq t]; omega
theorem kidsV_len (t : Tr) : len (kidsV t) = len t.parts := by unfold kidsV len; rw [List.length_map]
end Go.Eng
