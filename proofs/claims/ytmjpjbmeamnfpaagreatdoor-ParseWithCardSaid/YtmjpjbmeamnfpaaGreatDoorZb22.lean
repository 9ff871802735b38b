/-
  The parser of filters: numbers, suffixes, paths, literals, comparisons.
  THE ENGINE, PART 14: maps whose keys are strings: as those of integers (EngG), text for text. Over any program.
  MAPS with texts as keys, in the executor. Over any program.
-/
import Derived.Test.YtmjpjbmeamnfpaaGreatDoorZb13
import Derived.Test.YtmjpjbmeamnfpaaGreatDoorZb14
import Derived.Test.YtmjpjbmeamnfpaaGreatDoorZb21
import Derived.Test.YtmjpjbmeamnfpaaGreatDoorZb4
import Derived.Test.YtmjpjbmeamnfpaaGreatDoorZb12
set_option linter.unusedVariables false
set_option linter.unusedSimpArgs false
set_option maxRecDepth 100000
namespace Go.Proofs.YtmjpjbmeamnfpaaGreatDoor
open Go.Eng

/-- What the parser's functions are handed. -/
structure PIn (w0 wv : World) (M0 M : Mem) (Rs : List HO) (b : Nat) (v : Value) (l : List Tk) (i d : Int) : Prop where
  st : St w0 M0 wv M (pBox b v i d :: Rs)
  sl : Sl M 9 l.length v (l.flatMap Tk.cells)
  g : Gl w0
  ok : LexOk l
  h0 : 0 ≤ i
  h1 : i < len l
/-- How they end, of the twin's answer. -/
abbrev EndV {α : Type} (w0 : World) (M0 M : Mem) (Rs : List HO) (b : Nat) (v : Value) (d : Int) (r : PR α) (u : α → Value) : Ending → World → Prop :=
  QRet w0 M0 M Rs 56 r fun x j => ORet w0 M0 M Rs (fun _ : Unit => u x) (fun _ => True) (fun _ => []) fun _ => [pBox b v j d]
theorem wholeP_c {w0 wv : World} {M0 M : Mem} {Rs : List HO} {b : Nat} {v : Value} {l : List Tk} {i d : Int} (h : PIn w0 wv M0 M Rs b v l i d) :
    Calls Tryz.prog 127 [.pointer (some ⟨b, 0, none⟩)].toArray wv (EndV w0 M0 M Rs b v d (wholeA l i) fun n => i64 n) := by
 obtain ⟨hS, hl, hg, ok, h0, h1⟩ := h
 have hfew := ok.few
 have hnum := ok.num _ (at_mem h0 h1)
 have hcs := len_nonneg (at' l i).c.s
 refine xenter (Hr := Rs) ttok Tryz.func127 rfl Tryz.ntmps127 [(0, kn v 9 l Tk.cells)] [(0, xBox b v i d)] [.bx 0 b 0] rfl hS (fc 0 hl (fun _ => rfl) fnil) (fun B hB => ?_) rfl
 refine xcallK [0] (xTk (at' l i)) rfl (eok rfl) (by omega) Tryz.call25 rfl rfl (eok rfl) rfl (fun _ w M hS hF => now_c hS (hF.get (k := 0) rfl).sl h0 h1) rfl ?_
 refine xalloc 1 rfl (eok rfl) (by omega) Tryz.zeroValue63 rfl fun b1 => ?_
 refine xbr rfl (eok rfl) (by simp only [zb] <;> omega) (fun hb1 => ?_) (fun hb1 => ?_) <;> simp only [zb] at hb1
 ·have e : wholeA l i = .er 1 (at' l i).pos := by
   unfold wholeA failA
   rw [if_pos (by simpa only [or_assoc] using hb1)]
  refine xcallE [0] rfl (eok rfl) (by omega) rfl Tryz.call26 rfl (eok rfl) rfl (fun w M hS hF => failP_c 1 hS (hF.get (k := 0) rfl).sl h0 h1) fun a w M hs hS hle => post_panic _ (hB.p ?_ a hs)
  rw [e]; exact ⟨M, rfl, hS.drop _ (List.sublist_cons_self _ _), hle⟩
 ·have hk : ¬ ((at' l i).kind ≠ 5 ∨ (at' l i).c.neg = true ∨ (at' l i).c.e < 0 ∨ 7 < len (at' l i).c.s + (at' l i).c.e) := by
   rintro (q | q | q | q)
   · exact q hb1.1.1.1
   · rw [q] at hb1; cases hb1.1.1.2
   · omega
   · omega
  have h5 : (at' l i).kind = 5 := Decidable.byContradiction fun q => hk (.inl q)
  have he : ¬ (at' l i).c.e < 0 := fun q => hk (.inr (.inr (.inl q)))
  have hs7 : ¬ 7 < len (at' l i).c.s + (at' l i).c.e := fun q => hk (.inr (.inr (.inr q)))
  obtain ⟨ha, ha0, ha1⟩ := whole_atoi ok h0 h1 h5 (by omega) (by omega)
  have hrl : len (List.replicate (at' l i).c.e.toNat (48 : UInt8)) = (at' l i).c.e := by unfold len; rw [List.length_replicate]; omega
  refine xdraw rfl (eok rfl) (by omega) mixedK (by decide +kernel) ?_
  refine xqcall rfl (eok rfl) (by simp only [zb, len_cons, len_nil] <;> omega) Tryz.call169 rfl rfl (eok rfl) (fun _ w M hX => repeat1_c 48 (at' l i).c.e w (by omega) (by omega)) rfl ?_
  refine xqcall rfl (eok rfl) (by simp only [zb, len_cons, len_nil, len_app] <;> omega) Tryz.call120 rfl rfl (eok rfl) (fun _ w M hX => atoi_c _ _ w (by simp only [len_cons, len_nil, len_app]; omega) ha) rfl ?_
  refine xqend rfl (eok rfl) (by simp only [zb] <;> omega) ?_
  refine xbr rfl (eok rfl) (by simp only [zb] <;> omega) (fun hb2 => ?_) (fun hb2 => ?_) <;> simp only [zb] at hb2
  ·have e : wholeA l i = .er 1 (at' l i).pos := by
    unfold wholeA failA
    rw [if_neg hk, if_pos hb2]
   refine xcallE [0] rfl (eok rfl) (by omega) rfl Tryz.call26 rfl (eok rfl) rfl (fun w M hS hF => failP_c 1 hS (hF.get (k := 0) rfl).sl h0 h1) fun a w M hs hS hle => post_panic _ (hB.p ?_ a hs)
   rw [e]; exact ⟨M, rfl, hS.drop _ (List.sublist_cons_self _ _), hle⟩
  ·have e : wholeA l i = .ok (wholeN (at' l i)) (i + 1) := by
    unfold wholeA
    rw [if_neg hk, if_neg (by omega)]
   refine xret hB rfl rfl (eok rfl) (by simp only [zb] <;> omega) rfl (eok rfl) fun w M' hX => ?_
   rw [e]; exact ⟨(), M', rfl, trivial, hX.le, hX.st.drop _ (List.sublist_cons_self _ _), fnil⟩
theorem wholeQ {w0 wv : World} {M0 M : Mem} {Rs : List HO} {b : Nat} {v : Value} {l : List Tk} {i d : Int} {r : PR Int} (e : wholeA l i = r) (h : PIn w0 wv M0 M Rs b v l i d) :
    Calls Tryz.prog 127 [.pointer (some ⟨b, 0, none⟩)].toArray wv (EndV w0 M0 M Rs b v d r fun n => i64 n) := by subst e; exact wholeP_c h
/-- How a filter is handed back. -/
abbrev EndF (w0 : World) (M0 M : Mem) (Rs : List HO) (b : Nat) (v : Value) (d : Int) (r : PR Tf) : Ending → World → Prop :=
  QRet w0 M0 M Rs 56 r fun x j => ORet w0 M0 M Rs (fun h : SlH => h.v) (fun _ => True) (fun _ => []) fun h => [pBox b v j d, privF h.v x.flat]
theorem made0_c {w0 wv : World} {M0 M : Mem} {Rs : List HO} (t : Tm) (hS : St w0 M0 wv M Rs) :
    Calls Tryz.prog 122 [.agg t.cells.toArray, .slice none 0 0].toArray wv (FilR w0 M0 M Rs (Tf.mk t []).flat) := made_c t (.slice none 0 0) [] [] hS ⟨Sl.nil M 1, valI_len, trivial⟩ (by decide) (by decide)
theorem suffixP_c {w0 wv : World} {M0 M : Mem} {Rs : List HO} {b : Nat} {v : Value} {l : List Tk} {i d : Int} (hk : (at' l i).kind = 3 ∨ isM l i [91] = true) (h : PIn w0 wv M0 M Rs b v l i d) :
    Calls Tryz.prog 82 [.pointer (some ⟨b, 0, none⟩)].toArray wv (EndF w0 M0 M Rs b v d (sufA l i)) := by
 obtain ⟨hS, hl, hg, ok, h0, h1⟩ := h
 have hfew := ok.few
 have hi1 : i + 1 < len l := hk.elim (fun q => kind_lt ok h0 h1 q (by decide)) (isM_lt ok h0 h1)
 refine xenter (Hr := Rs) ttok Tryz.func82 rfl Tryz.ntmps82 [(0, kn v 9 l Tk.cells)] [(0, xBox b v i d)] [.bx 0 b 0] rfl hS (fc 0 hl (fun _ => rfl) fnil) (fun B hB => ?_) rfl
 refine xcallK [0] (xTk (at' l i)) rfl (eok rfl) (by omega) Tryz.call25 rfl rfl (eok rfl) rfl (fun _ w M hS hF => now_c hS (hF.get (k := 0) rfl).sl h0 h1) rfl ?_
 refine xalloc 1 rfl (eok rfl) (by omega) Tryz.zeroValue63 rfl fun b1 => ?_
 refine xbr rfl (eok rfl) (by simp only [zb] <;> omega) (fun hb1 => ?_) (fun hb1 => ?_) <;> simp only [zb] at hb1
 ·have e : sufA l i = .ok (.mk { tmF 1 with s := (at' l i).s } []) (i + 1) := by unfold sufA; rw [if_pos hb1]
  refine xcallO [] (fun h : SlH => .sl 2 h.v) [] (fun h => [(2, pvF h.v (Tf.mk { tmF 1 with s := (at' l i).s } []).flat)]) rfl (eok rfl) (by omega) rfl Tryz.call122 rfl rfl (eok rfl) rfl (fun w M hS hF => made0_c { tmF 1 with s := (at' l i).s } hS) (fun _ => rfl) (fun _ => rfl) fun h2 _ => ?_
  refine xret hB rfl rfl (eok rfl) (by simp only [zb] <;> omega) rfl (eok rfl) fun w M' hX => ?_
  rw [e]; exact ⟨h2, M', rfl, trivial, hX.le, hX.sel [0, 2] rfl, fnil⟩
 ·have hm := hk.resolve_left hb1
  have e : sufA l i = (wholeA l (i + 1)).bind fun n j => if isM l j [58] then (needA l (j + 1) [93]).bind fun _ k => .ok (.mk { tmF 3 with n := n } []) k else (needA l j [93]).bind fun _ k => .ok (.mk { tmF 2 with n := n } []) k := by unfold sufA; rw [if_neg hb1]
  rw [e] at hB
  cases hw : wholeA l (i + 1) with
  | er ec p =>
   rw [hw] at hB
   exact xcallE [0] rfl (eok rfl) (by omega) rfl Tryz.call127 rfl (eok rfl) rfl (fun w M hS hF => wholeQ hw ⟨hS, (hF.get (k := 0) rfl).sl, hg, ok, by omega, hi1⟩) fun a w M hs hS hle => post_panic _ (hB.p ⟨M, rfl, hS.drop _ (List.sublist_cons_self _ _), hle⟩ a hs)
  | ok n j =>
   rw [hw] at hB
   obtain ⟨rfl, hj1, _, _⟩ := whole_ok ok (by omega) hi1 hw
   refine xcallO [0] (fun _ : Unit => I n) [] (fun _ => [(0, xBox b v (i + 1 + 1) d)]) rfl (eok rfl) (by omega) rfl Tryz.call127 rfl rfl (eok rfl) rfl (fun w M hS hF => wholeQ hw ⟨hS, (hF.get (k := 0) rfl).sl, hg, ok, by omega, hi1⟩) (fun _ => rfl) (fun _ => rfl) fun _ _ => ?_
   refine xalloc 2 rfl (eok rfl) (by omega) Tryz.zeroValue51 rfl fun b2 => ?_
   refine xcallK [0] (.v (.bool (isM l (i + 1 + 1) [58]))) rfl (eok rfl) (by omega) Tryz.call50 rfl rfl (eok rfl) rfl (fun _ w M hS hF => isP_c [58] hS (hF.get (k := 0) rfl).sl (by omega) hj1) rfl ?_
   refine xbr rfl (eok rfl) (by omega) (fun hb2 => ?_) (fun hb2 => ?_)
   ·have hj2 := isM_lt ok (by omega) hj1 hb2
    simp only [PR.bind, hb2, if_true] at hB
    cases hn : needA l (i + 1 + 1 + 1) [93] with
    | er ec p =>
     rw [hn] at hB
     exact xcallE [0] rfl (eok rfl) (by simp only [zb] <;> omega) rfl Tryz.call128 rfl (eok rfl) rfl (fun w M hS hF => needQ _ hn hS (hF.get (k := 0) rfl).sl (by omega) hj2 (by omega)) fun a w M hs hS hle => post_panic _ (hB.p ⟨M, rfl, hS.drop _ sub2, hle⟩ a hs)
    | ok u k =>
     rw [hn] at hB
     obtain ⟨rfl, hk1, _⟩ := need_ok ok (by omega) hj2 hn
     refine xcallO [0] (fun _ : Unit => .tu []) [] (fun _ => [(0, xBox b v (i + 1 + 1 + 1 + 1) d)]) rfl (eok rfl) (by simp only [zb] <;> omega) rfl Tryz.call128 rfl rfl (eok rfl) rfl (fun w M hS hF => needQ _ hn hS (hF.get (k := 0) rfl).sl (by omega) hj2 (by omega)) (fun _ => rfl) (fun _ => rfl) fun _ _ => ?_
     refine xcallO [] (fun h : SlH => .sl 3 h.v) [] (fun h => [(3, pvF h.v (Tf.mk { tmF 3 with n := n } []).flat)]) rfl (eok rfl) (by omega) rfl Tryz.call122 rfl rfl (eok rfl) rfl (fun w M hS hF => made0_c { tmF 3 with n := n } hS) (fun _ => rfl) (fun _ => rfl) fun h3 _ => ?_
     exact xret hB rfl rfl (eok rfl) (by omega) rfl (eok rfl) fun w M' hX => ⟨h3, M', rfl, trivial, hX.le, hX.sel [0, 3] rfl, fnil⟩
   ·simp only [PR.bind, hb2, Bool.false_eq_true, if_false] at hB
    cases hn : needA l (i + 1 + 1) [93] with
    | er ec p =>
     rw [hn] at hB
     exact xcallE [0] rfl (eok rfl) (by simp only [zb] <;> omega) rfl Tryz.call128 rfl (eok rfl) rfl (fun w M hS hF => needQ _ hn hS (hF.get (k := 0) rfl).sl (by omega) hj1 (by omega)) fun a w M hs hS hle => post_panic _ (hB.p ⟨M, rfl, hS.drop _ sub2, hle⟩ a hs)
    | ok u k =>
     rw [hn] at hB
     obtain ⟨rfl, hk1, _⟩ := need_ok ok (by omega) hj1 hn
     refine xcallO [0] (fun _ : Unit => .tu []) [] (fun _ => [(0, xBox b v (i + 1 + 1 + 1) d)]) rfl (eok rfl) (by simp only [zb] <;> omega) rfl Tryz.call128 rfl rfl (eok rfl) rfl (fun w M hS hF => needQ _ hn hS (hF.get (k := 0) rfl).sl (by omega) hj1 (by omega)) (fun _ => rfl) (fun _ => rfl) fun _ _ => ?_
     refine xcallO [] (fun h : SlH => .sl 3 h.v) [] (fun h => [(3, pvF h.v (Tf.mk { tmF 2 with n := n } []).flat)]) rfl (eok rfl) (by omega) rfl Tryz.call122 rfl rfl (eok rfl) rfl (fun w M hS hF => made0_c { tmF 2 with n := n } hS) (fun _ => rfl) (fun _ => rfl) fun h3 _ => ?_
     exact xret hB rfl rfl (eok rfl) (by omega) rfl (eok rfl) fun w M' hX => ⟨h3, M', rfl, trivial, hX.le, hX.sel [0, 3] rfl, fnil⟩
/-- The place of a text in a list; below 0: it is not there. -/
def idxI (l : List Str) (x : Str) : Int := if x ∈ l then (l.idxOf x : Nat) else -1
theorem idxOf_le {x : Str} : ∀ {l : List Str} {n : Nat} (h : n < l.length), l[n] = x → l.idxOf x ≤ n
 | [], n, h, _ => absurd h (Nat.not_lt_zero _)
 | a :: l, 0, h, hx => by
   have : a = x := hx
   rw [List.idxOf_cons, this]; simp
 | a :: l, n + 1, h, hx => by
   have := idxOf_le (l := l) (n := n) (by simpa using h) (by simpa using hx)
   rw [List.idxOf_cons]
   cases (a == x) <;> simp <;> omega
theorem idxI_at {l : List Str} {x : Str} {k : Int} (h0 : 0 ≤ k) (h1 : k < len l) (ha : ∀ j, 0 ≤ j → j < k → at' l j ≠ x) (hx : at' l k = x) : idxI l x = k := by
 have hm : x ∈ l := hx ▸ at_mem h0 h1
 obtain ⟨hlt, e⟩ := at'_eq l h0 h1
 unfold idxI
 rw [if_pos hm]
 have hi : l.idxOf x < l.length := List.idxOf_lt_length_iff.2 hm
 have hle : l.idxOf x ≤ k.toNat := idxOf_le hlt (by rw [← e]; exact hx)
 have hge : ¬ l.idxOf x < k.toNat := fun h => by
  obtain ⟨h2, e2⟩ := at'_eq l (i := (l.idxOf x : Int)) (by omega) (by unfold len; omega)
  refine ha (l.idxOf x) (by omega) (by omega) ?_
  rw [e2]; simp
 omega
theorem idxI_no {l : List Str} {x : Str} (ha : ∀ j, 0 ≤ j → j < len l → at' l j ≠ x) : idxI l x = -1 := by
 unfold idxI
 rw [if_neg fun hm => ?_]
 obtain ⟨i, h0, h1, e⟩ := mem_at hm
 exact ha i h0 h1 e
theorem index_c {w : World} {M : Mem} (v : Value) (l : List Str) (x : Str) (hM : Sat w M) (hl : Sl M 1 l.length v (l.flatMap strC)) (hb : len l ≤ 1099511627776) :
    Calls Tryz.prog 226 [v, str x].toArray w fun e w' => e = .returned (i64 (idxI l x)) ∧ Ext w w' := by
 have hln := len_nonneg l
 refine xenter (Hr := []) ttok Tryz.func226 rfl Tryz.ntmps226 [(0, kn v 1 l strC)] [] [.sl 0 v, .v (str x)] rfl (St.start hM) (fc 0 hl strC_len fnil) (fun B hB => ?_) rfl
 refine xloop (σ := Int) (fun k => ⟨[(0, kn v 1 l strC)], [], [Z 0 (.sl 0 v), Z 1 (.v (str x)), Z 7 (I (len l)), Z 8 (I k)]⟩) (fun k => 0 ≤ k ∧ k ≤ len l ∧ ∀ j, 0 ≤ j → j < k → at' l j ≠ x) (fun k => (len l - k).toNat) 0 rfl (eok rfl) (by omega) rfl ⟨by omega, hln, fun j h0 h1 => by omega⟩ ?_
 rintro k ⟨h0, h1, ha⟩
 refine xbr rfl (eok rfl) (by omega) (fun hb1 => ?_) (fun hb1 => ?_) <;> simp only [zb] at hb1
 ·refine xbr rfl (eok rfl) (by omega) (fun hb2 => ?_) (fun hb2 => ?_) <;> simp only [zb] at hb2
  ·exact xret hB rfl rfl (eok rfl) (by omega) rfl (eok rfl) fun w M hX => ⟨by rw [idxI_at h0 hb1 ha hb2.symm]; rfl, hX.st.low⟩
  ·exact xround (k + 1) rfl (eok rfl) (by omega) rfl ⟨by omega, by omega, fun j q0 q1 => by
    by_cases hj : j = k
    · subst hj; exact fun q => hb2 q.symm
    · exact ha j q0 (by omega)⟩ (by show Int.toNat _ < Int.toNat _; omega)
 ·exact xret hB rfl rfl (eok rfl) (by omega) rfl (eok rfl) fun w M hX => ⟨by rw [idxI_no (fun j q0 q1 => ha j q0 (by omega))]; rfl, hX.st.low⟩
theorem litP_c {w0 wv : World} {M0 M : Mem} {Rs : List HO} {b : Nat} {v : Value} {l : List Tk} {i d : Int} (h : PIn w0 wv M0 M Rs b v l i d) :
    Calls Tryz.prog 298 [.pointer (some ⟨b, 0, none⟩)].toArray wv (QRet w0 M0 M Rs 56 (litA l i) fun c _ => ORet w0 M0 M Rs (fun _ : Unit => .agg c.cells.toArray) (fun _ => True) (fun _ => []) fun _ => [pBox b v i d]) := by
 obtain ⟨hS, hl, hg, ok, h0, h1⟩ := h
 have hfew := ok.few
 refine xenter (Hr := Rs) ttok Tryz.func298 rfl Tryz.ntmps298 [(0, kn v 9 l Tk.cells)] [(0, xBox b v i d)] [.bx 0 b 0] rfl hS (fc 0 hl (fun _ => rfl) fnil) (fun B hB => ?_) rfl
 refine xalloc 2 rfl (eok rfl) (by omega) Tryz.zeroValue46 rfl fun b2 => ?_
 refine xcallK [0] (xTk (at' l i)) rfl (eok rfl) (by omega) Tryz.call25 rfl rfl (eok rfl) rfl (fun _ w M hS hF => now_c hS (hF.get (k := 0) rfl).sl h0 h1) rfl ?_
 refine xalloc 1 rfl (eok rfl) (by omega) Tryz.zeroValue63 rfl fun b1 => ?_
 refine xlit 3 [sNull, sFalse, sTrue] strC 1 9 strC_len rfl (eok rfl) (by omega) rfl (eok rfl) (fun w => by kernel_rfl) rfl fun v3 => ?_
 refine xcall rfl (eok rfl) (by omega) Tryz.call226 rfl rfl (eok rfl) (fun _ w M hX => index_c v3 [sNull, sFalse, sTrue] (at' l i).s hX.st.sat (hX.sl 3 rfl) (by decide)) rfl ?_
 refine xbr rfl (eok rfl) (by omega) (fun hb1 => ?_) (fun hb1 => ?_) <;> simp only [zb] at hb1
 ·have e : litA l i = .ok (at' l i).c (i + 1) := by unfold litA; rw [if_pos hb1]
  rw [e] at hB
  exact xret hB rfl rfl (eok rfl) (by omega) rfl (eok rfl) fun w M' hX => ⟨(), M', rfl, trivial, hX.le, hX.sel [0] rfl, fnil⟩
 refine xbr rfl (eok rfl) (by omega) (fun hb2 => ?_) (fun hb2 => ?_) <;> simp only [zb] at hb2
 ·have e : litA l i = .ok ⟨4, 0, [], (at' l i).s, false, 0⟩ (i + 1) := by unfold litA; rw [if_neg hb1, if_pos hb2]
  rw [e] at hB
  exact xret hB rfl rfl (eok rfl) (by omega) rfl (eok rfl) fun w M' hX => ⟨(), M', rfl, trivial, hX.le, hX.sel [0] rfl, fnil⟩
 have hidx : -1 ≤ idxI [sNull, sFalse, sTrue] (at' l i).s := by unfold idxI; split <;> omega
 refine xbr rfl (eok rfl) (by simp only [zb] <;> omega) (fun hb3 => ?_) (fun hb3 => ?_) <;> simp only [zb] at hb3
 ·have e : litA l i = .er 1 (at' l i).pos := by
   unfold litA failA
   rw [if_neg hb1, if_neg hb2, if_neg]
   rintro ⟨q1, q2⟩
   rcases hb3 with q | q
   · exact q q1
   · unfold idxI at q; rw [if_pos q2] at q; omega
  rw [e] at hB
  exact xcallE [0] rfl (eok rfl) (by omega) rfl Tryz.call26 rfl (eok rfl) rfl (fun w M hS hF => failP_c 1 hS (hF.get (k := 0) rfl).sl h0 h1) fun a w M hs hS hle => post_panic _ (hB.p ⟨M, rfl, hS.drop _ sub3, hle⟩ a hs)
 ·have hm : (at' l i).s ∈ [sNull, sFalse, sTrue] := Decidable.byContradiction fun q => by
   have q2 := hb3.2
   unfold idxI at q2; rw [if_neg q] at q2; omega
  have e : litA l i = .ok ⟨idxI [sNull, sFalse, sTrue] (at' l i).s, 0, [], [], false, 0⟩ (i + 1) := by
   unfold litA idxI
   rw [if_neg hb1, if_neg hb2, if_pos ⟨hb3.1, hm⟩, if_pos hm]
  rw [e] at hB
  exact xret hB rfl rfl (eok rfl) (by omega) rfl (eok rfl) fun w M' hX => ⟨(), M', rfl, trivial, hX.le, hX.sel [0] rfl, fnil⟩
theorem litQ {w0 wv : World} {M0 M : Mem} {Rs : List HO} {b : Nat} {v : Value} {l : List Tk} {i d : Int} {r : PR Nd} (e : litA l i = r) (h : PIn w0 wv M0 M Rs b v l i d) :
    Calls Tryz.prog 298 [.pointer (some ⟨b, 0, none⟩)].toArray wv (QRet w0 M0 M Rs 56 r fun c _ => ORet w0 M0 M Rs (fun _ : Unit => .agg c.cells.toArray) (fun _ => True) (fun _ => []) fun _ => [pBox b v i d]) := by subst e; exact litP_c h
theorem Sp.cells_one (x : Sp) : ∀ u ∈ x.cells, u.oneCell' = true := by intro u hu; simp [Sp.cells] at hu; rcases hu with rfl | rfl | rfl <;> rfl
abbrev ownSp (v : Value) (xs : List Sp) : HO := .own 68 3 v xs.length (xs.flatMap Sp.cells)
theorem pathP_c {w0 wv : World} {M0 M : Mem} {Rs : List HO} {b : Nat} {v : Value} {l : List Tk} {i d : Int} (h : PIn w0 wv M0 M Rs b v l i d) :
    Calls Tryz.prog 162 [.pointer (some ⟨b, 0, none⟩)].toArray wv (EndV w0 M0 M Rs b v d (pathA quoteP l i) fun s => str s) := by
 obtain ⟨hS, hl, hg, ok, h0, h1⟩ := h
 have hfew := ok.few
 refine xenter (Hr := Rs) ttok Tryz.func162 rfl Tryz.ntmps162 [(0, kn v 9 l Tk.cells)] [(0, xBox b v i d)] [.bx 0 b 0] rfl hS (fc 0 hl (fun _ => rfl) fnil) (fun B hB => ?_) rfl
 refine xcallK [0] (.v (.bool (isM l i [46]))) rfl (eok rfl) (by omega) Tryz.call50 rfl rfl (eok rfl) rfl (fun _ w M hS hF => isP_c [46] hS (hF.get (k := 0) rfl).sl h0 h1) rfl ?_
 refine xbrj 0 (fun s => ∃ (dot : Bool) (i0 : Int), i ≤ i0 ∧ i0 < len l ∧ pathA quoteP l i = ((stepsA dot l.length l [] i0).bind fun xs j => .ok (pathP quoteP xs) j) ∧ s = ⟨[(0, kn v 9 l Tk.cells)], [(0, xBox b v i0 d)], [Z 0 (.bx 0 b 0), Z 3 (.v (.slice none 0 0)), Z 4 (.v (.bool dot))]⟩) rfl (eok rfl) (by simp only [zb] <;> omega) rfl (fun hb1 => ?_) (fun hb1 => ?_) ?_
 ·exact xmeet _ rfl (eok rfl) (by omega) rfl ⟨isM l i [46], i + 1, by omega, isM_lt ok h0 h1 hb1, by unfold pathA; rw [if_pos hb1, hb1], rfl⟩
 ·refine xcallK [0] (xTk (at' l i)) rfl (eok rfl) (by omega) Tryz.call25 rfl rfl (eok rfl) rfl (fun _ w M hS hF => now_c hS (hF.get (k := 0) rfl).sl h0 h1) rfl ?_
  refine xbr rfl (eok rfl) (by omega) (fun hb2 => ?_) (fun hb2 => ?_) <;> simp only [zb] at hb2
  ·have e : pathA quoteP l i = .er 1 (at' l i).pos := by unfold pathA failA; rw [if_neg (by rw [hb1]; decide), if_pos hb2]
   rw [e] at hB
   exact xcallE [0] rfl (eok rfl) (by omega) rfl Tryz.call26 rfl (eok rfl) rfl (fun w M hS hF => failP_c 1 hS (hF.get (k := 0) rfl).sl h0 h1) fun a w M hs hS hle => post_panic _ (hB.p ⟨M, rfl, hS, hle⟩ a hs)
  ·exact xmeet _ rfl (eok rfl) (by omega) rfl ⟨isM l i [46], i, by omega, h1, by unfold pathA; rw [if_neg (by rw [hb1]; decide), if_neg (by omega), hb1], rfl⟩
 rintro s ⟨dot, i0, hi0, hi1, e0, rfl⟩
 rw [e0] at hB
 generalize hR : stepsA dot l.length l [] i0 = R at hB
 refine xnil 1 3 68 3 Sp.cells Sp.cells_len rfl ?_
 refine xloop (σ := Int × Value × List Sp × Nat) (fun (j, u, xs, f) => ⟨[(0, kn v 9 l Tk.cells), (1, kn u 3 xs Sp.cells)], [(0, xBox b v j d), (1, .ho (ownSp u xs))], [Z 0 (.bx 0 b 0), Z 3 (.sl 1 u), Z 4 (.v (.bool dot))]⟩)
   (fun (j, u, xs, f) => 0 ≤ j ∧ j < len l ∧ StepsOk xs ∧ len l ≤ j + f ∧ stepsA dot f l xs j = R) (fun (j, u, xs, f) => (len l - j).toNat) (i0, .slice none 0 0, [], l.length) rfl (eok rfl) (by omega) rfl ⟨by omega, hi1, .nil, by unfold len at *; omega, hR⟩ ?_
 rintro ⟨j, u, xs, f⟩ ⟨hj0, hj1, hxs, hf, hst⟩
 have hx0 := len_nonneg xs
 have hx20 := hxs.1
 refine xcallK [0] (.v (.bool (isM l j [91]))) rfl (eok rfl) (by omega) Tryz.call50 rfl rfl (eok rfl) rfl (fun _ w M hS hF => isP_c [91] hS (hF.get (k := 0) rfl).sl hj0 hj1) rfl ?_
 refine xcallK [0] (xTk (at' l j)) rfl (eok rfl) (by simp only [zb] <;> omega) Tryz.call25 rfl rfl (eok rfl) rfl (fun _ w M hS hF => now_c hS (hF.get (k := 0) rfl).sl hj0 hj1) rfl ?_
 cases f with
 | zero => exfalso; omega
 | succ f =>
 unfold stepsA at hst
 refine xbr rfl (eok rfl) (by simp only [zb] <;> omega) (fun hb1 => ?_) (fun hb1 => ?_) <;> simp only [zb] at hb1
 ·have hc : isM l j [91] = true ∨ (at' l j).kind = 3 ∧ (dot = false ∨ xs ≠ []) := hb1.imp id fun ⟨q1, q2⟩ => ⟨q1, q2.imp id fun q3 q4 => by rw [q4] at q3; cases q3⟩
  have hj2 : j + 1 < len l := hc.elim (isM_lt ok hj0 hj1) fun q => kind_lt ok hj0 hj1 q.1 (by decide)
  rw [if_pos hc] at hst
  refine xbr rfl (eok rfl) (by omega) (fun hb2 => ?_) (fun hb2 => ?_) <;> simp only [zb] at hb2
  ·rw [if_pos hb2] at hst
   rw [← hst] at hB
   exact xcallE [0] rfl (eok rfl) (by omega) rfl Tryz.call26 rfl (eok rfl) rfl (fun w M hS hF => failP_c 1 hS (hF.get (k := 0) rfl).sl hj0 hj1) fun a w M hs hS hle => post_panic _ (hB.p ⟨M, rfl, hS.drop _ (List.sublist_cons_self _ _), hle⟩ a hs)
  rw [if_neg hb2] at hst
  refine xcallK [0] (xTk (at' l j)) rfl (eok rfl) (by omega) Tryz.call25 rfl rfl (eok rfl) rfl (fun _ w M hS hF => now_c hS (hF.get (k := 0) rfl).sl hj0 hj1) rfl ?_
  refine xalloc 5 rfl (eok rfl) (by omega) Tryz.zeroValue68 rfl fun b5 => ?_
  have ej : j + 1 - 1 = j := by omega
  refine xdraw rfl (eok rfl) (by simp only [zb] <;> omega) mixedK (by decide +kernel) (xqend rfl (eok rfl) (by simp only [zb] <;> omega) ?_)
  refine xbr rfl (eok rfl) (by omega) (fun hb3 => ?_) (fun hb3 => ?_) <;> simp only [zb] at hb3 <;> rw [ej] at hb3
  ·rw [if_pos hb3] at hst
   cases hw : wholeA l (j + 1) with
   | er ec p =>
    rw [hw] at hst
    rw [← hst] at hB
    exact xcallE [0] rfl (eok rfl) (by omega) rfl Tryz.call127 rfl (eok rfl) rfl (fun w M hS hF => wholeQ hw ⟨hS, (hF.get (k := 0) rfl).sl, hg, ok, by omega, hj2⟩) fun a w M hs hS hle => post_panic _ (hB.p ⟨M, rfl, hS.drop _ sub2, hle⟩ a hs)
   | ok n j' =>
    obtain ⟨rfl, hj3, hn6, hk5⟩ := whole_ok ok (by omega) hj2 hw
    have hn0 := wholeA_pos ok (by omega) hj2 hw
    rw [hw] at hst
    refine xcallO [0] (fun _ : Unit => I n) [] (fun _ => [(0, xBox b v (j + 1 + 1) d)]) rfl (eok rfl) (by omega) rfl Tryz.call127 rfl rfl (eok rfl) rfl (fun w M hS hF => wholeQ hw ⟨hS, (hF.get (k := 0) rfl).sl, hg, ok, by omega, hj2⟩) (fun _ => rfl) (fun _ => rfl) fun _ _ => ?_
    simp only [PR.bind] at hst
    cases hn : needA l (j + 1 + 1) [93] with
    | er ec p =>
     rw [hn] at hst
     rw [← hst] at hB
     exact xcallE [0] rfl (eok rfl) (by omega) rfl Tryz.call128 rfl (eok rfl) rfl (fun w M hS hF => needQ _ hn hS (hF.get (k := 0) rfl).sl (by omega) hj3 (by omega)) fun a w M hs hS hle => post_panic _ (hB.p ⟨M, rfl, hS.drop _ sub2, hle⟩ a hs)
    | ok un k' =>
     obtain ⟨rfl, hj4, _⟩ := need_ok ok (by omega) hj3 hn
     rw [hn] at hst
     refine xcallO [0] (fun _ : Unit => .tu []) [] (fun _ => [(0, xBox b v (j + 1 + 1 + 1) d)]) rfl (eok rfl) (by omega) rfl Tryz.call128 rfl rfl (eok rfl) rfl (fun w M hS hF => needQ _ hn hS (hF.get (k := 0) rfl).sl (by omega) hj3 (by omega)) (fun _ => rfl) (fun _ => rfl) fun _ _ => ?_
     refine xlit 6 [(⟨true, [], n⟩ : Sp)] Sp.cells 3 68 Sp.cells_len rfl (eok rfl) (by omega) rfl (eok rfl) (fun w => by kernel_rfl) rfl fun v6 => ?_
     refine xapp 32 rfl (eok rfl) (by omega) rfl (eok rfl) rfl Tryz.underlying70 Tryz.type68 rfl rfl Sp.cells_one (by simp only [len_cons, len_nil]; omega) fun v' => ?_
     exact xround (j + 1 + 1 + 1, v', xs ++ [⟨true, [], n⟩], f) rfl (eok rfl) (by omega) rfl ⟨by omega, hj4, ⟨by rw [len_app]; show len xs + 1 ≤ 20; omega, fun s hs => by
      rcases List.mem_append.1 hs with hs | hs
      · exact hxs.2 s hs
      · rw [List.mem_singleton] at hs; subst hs; exact ⟨(by show len ([] : Str) ≤ 1048576; decide), fun _ => ⟨hn0, hn6⟩⟩⟩, by omega, hst⟩ (by show Int.toNat _ < Int.toNat _; omega)
  ·rw [if_neg hb3] at hst
   refine xlit 6 [(⟨false, (at' l j).s, 0⟩ : Sp)] Sp.cells 3 68 Sp.cells_len rfl (eok rfl) (by omega) rfl (eok rfl) (fun w => by kernel_rfl) rfl fun v6 => ?_
   refine xapp 32 rfl (eok rfl) (by omega) rfl (eok rfl) rfl Tryz.underlying70 Tryz.type68 rfl rfl Sp.cells_one (by simp only [len_cons, len_nil]; omega) fun v' => ?_
   exact xround (j + 1, v', xs ++ [⟨false, (at' l j).s, 0⟩], f) rfl (eok rfl) (by omega) rfl ⟨by omega, hj2, ⟨by rw [len_app]; show len xs + 1 ≤ 20; omega, fun s hs => by
    rcases List.mem_append.1 hs with hs | hs
    · exact hxs.2 s hs
    · rw [List.mem_singleton] at hs; subst hs; exact ⟨ok.bd _ (at_mem hj0 hj1), fun q => by cases q⟩⟩, by omega, hst⟩ (by show Int.toNat _ < Int.toNat _; omega)
 ·rw [if_neg (fun q => ?_)] at hst
  ·rw [← hst] at hB
   refine xcall rfl (eok rfl) (by omega) Tryz.call175 rfl rfl (eok rfl) (fun _ w M hX => ptext_c u xs hX.st.sat (hg.low hX.st.low) (hX.sl 1 rfl) hxs) rfl ?_
   exact xret hB rfl rfl (eok rfl) (by omega) rfl (eok rfl) fun w M' hX => ⟨(), M', rfl, trivial, hX.le, hX.sel [0] rfl, fnil⟩
  ·rcases q with q | ⟨q1, q2⟩
   · rw [q] at hb1; cases hb1.1
   · rcases hb1.2 with r | r
     · exact r q1
     · rcases q2 with q2 | q2
       · rw [q2] at r; cases r.1
       · have := len_pos q2; omega
theorem pathQ {w0 wv : World} {M0 M : Mem} {Rs : List HO} {b : Nat} {v : Value} {l : List Tk} {i d : Int} {r : PR Str} (e : pathA quoteP l i = r) (h : PIn w0 wv M0 M Rs b v l i d) :
    Calls Tryz.prog 162 [.pointer (some ⟨b, 0, none⟩)].toArray wv (EndV w0 M0 M Rs b v d r fun s => str s) := by subst e; exact pathP_c h
theorem cmpP_c {w0 wv : World} {M0 M : Mem} {Rs : List HO} {b : Nat} {v : Value} {l : List Tk} {i d : Int} (h : PIn w0 wv M0 M Rs b v l i d) :
    Calls Tryz.prog 276 [.pointer (some ⟨b, 0, none⟩)].toArray wv (EndF w0 M0 M Rs b v d (cmpA quoteP l i)) := by
 have hh := h
 obtain ⟨hS, hl, hg, ok, h0, h1⟩ := h
 have hfew := ok.few
 refine xenter (Hr := Rs) ttok Tryz.func276 rfl Tryz.ntmps276 [(0, kn v 9 l Tk.cells)] [(0, xBox b v i d)] [.bx 0 b 0] rfl hS (fc 0 hl (fun _ => rfl) fnil) (fun B hB => ?_) rfl
 unfold cmpA at hB
 cases hp : pathA quoteP l i with
 | er ec p =>
  rw [hp] at hB
  exact xcallE [0] rfl (eok rfl) (by omega) rfl Tryz.call162 rfl (eok rfl) rfl (fun w M hS hF => pathQ hp ⟨hS, (hF.get (k := 0) rfl).sl, hg, ok, h0, h1⟩) fun a w M hs hS hle => post_panic _ (hB.p ⟨M, rfl, hS, hle⟩ a hs)
 | ok s j =>
  obtain ⟨hij, hj1⟩ := path_ok ok h0 h1 hp
  rw [hp] at hB
  simp only [PR.bind] at hB
  refine xcallO [0] (fun _ : Unit => .v (str s)) [] (fun _ => [(0, xBox b v j d)]) rfl (eok rfl) (by omega) rfl Tryz.call162 rfl rfl (eok rfl) rfl (fun w M hS hF => pathQ hp ⟨hS, (hF.get (k := 0) rfl).sl, hg, ok, h0, h1⟩) (fun _ => rfl) (fun _ => rfl) fun _ _ => ?_
  refine xlit 3 signsA strC 1 9 strC_len rfl (eok rfl) (by omega) rfl (eok rfl) (fun w => by kernel_rfl) rfl fun v3 => ?_
  refine xcallK [0] (xTk (at' l j)) rfl (eok rfl) (by omega) Tryz.call25 rfl rfl (eok rfl) rfl (fun _ w M hS hF => now_c hS (hF.get (k := 0) rfl).sl (by omega) hj1) rfl ?_
  refine xcall rfl (eok rfl) (by omega) Tryz.call226 rfl rfl (eok rfl) (fun _ w M hX => index_c v3 signsA (at' l j).s hX.st.sat (hX.sl 3 rfl) (by decide)) rfl ?_
  refine xcallK [0] (xTk (at' l j)) rfl (eok rfl) (by omega) Tryz.call25 rfl rfl (eok rfl) rfl (fun _ w M hS hF => now_c hS (hF.get (k := 0) rfl).sl (by omega) hj1) rfl ?_
  have hidx : -1 ≤ idxI signsA (at' l j).s := by unfold idxI; split <;> omega
  refine xbr rfl (eok rfl) (by simp only [zb] <;> omega) (fun hb1 => ?_) (fun hb1 => ?_) <;> simp only [zb] at hb1
  ·rw [if_neg] at hB
   ·exact xcallE [0] rfl (eok rfl) (by omega) rfl Tryz.call26 rfl (eok rfl) rfl (fun w M hS hF => failP_c 1 hS (hF.get (k := 0) rfl).sl (by omega) hj1) fun a w M hs hS hle => post_panic _ (hB.p ⟨M, rfl, hS.drop _ (List.sublist_cons_self _ _), hle⟩ a hs)
   ·rintro ⟨q1, q2⟩
    rcases hb1 with q | q
    · exact q q1
    · unfold idxI at q; rw [if_pos q2] at q; omega
  ·have hm : (at' l j).s ∈ signsA := Decidable.byContradiction fun q => by
    have q2 := hb1.2
    unfold idxI at q2; rw [if_neg q] at q2; omega
   have hix : idxI signsA (at' l j).s = (signsA.idxOf (at' l j).s : Nat) := by unfold idxI; rw [if_pos hm]
   have hj2 := kind_lt ok (by omega) hj1 hb1.1 (by decide)
   rw [if_pos ⟨hb1.1, hm⟩, ← hix] at hB
   cases hli : litA l (j + 1) with
   | er ec p =>
    rw [hli] at hB
    exact xcallE [0] rfl (eok rfl) (by simp only [zb] <;> omega) rfl Tryz.call298 rfl (eok rfl) rfl (fun w M hS hF => litQ hli ⟨hS, (hF.get (k := 0) rfl).sl, hg, ok, by omega, hj2⟩) fun a w M hs hS hle => post_panic _ (hB.p ⟨M, rfl, hS.drop _ (List.sublist_cons_self _ _), hle⟩ a hs)
   | ok c k =>
    obtain ⟨rfl, hj3⟩ := lit_ok ok (by omega) hj2 hli
    rw [hli] at hB
    refine xcallO [0] (fun _ : Unit => .ag (mapv c.cells)) [] (fun _ => [(0, xBox b v (j + 1) d)]) rfl (eok rfl) (by simp only [zb] <;> omega) rfl Tryz.call298 rfl rfl (eok rfl) rfl (fun w M hS hF => litQ hli ⟨hS, (hF.get (k := 0) rfl).sl, hg, ok, by omega, hj2⟩) (fun _ => rfl) (fun _ => rfl) fun _ _ => ?_
    refine xalloc 5 rfl (eok rfl) (by omega) Tryz.zeroValue46 rfl fun b5 => ?_
    refine xcallO [] (fun h : SlH => .sl 4 h.v) [] (fun h => [(4, pvF h.v (Tf.mk ⟨16, 0, [], s, idxI signsA (at' l j).s, c⟩ []).flat)]) rfl (eok rfl) (by simp only [zb] <;> omega) rfl Tryz.call122 rfl rfl (eok rfl) rfl (fun w M hS hF => made0_c ⟨16, 0, [], s, idxI signsA (at' l j).s, c⟩ hS) (fun _ => rfl) (fun _ => rfl) fun h4 _ => ?_
    exact xret hB rfl rfl (eok rfl) (by omega) rfl (eok rfl) fun w M' hX => ⟨h4, M', rfl, trivial, hX.le, hX.sel [0, 4] rfl, fnil⟩
end Go.Proofs.YtmjpjbmeamnfpaaGreatDoor
namespace Go.Eng
open Go.RowKit

structure SV where
  key : Str
  val : Value
  born : Nat
def SV.ent (p : SV) : MapEntry := { key := str p.key, val := p.val, born := p.born }
def smobj (l : List SV) (clock : Nat) : Obj := .map ⟨l.map SV.ent⟩ clock
def sget : List SV → Str → Option Value
  | [], _ => none
  | p :: l, x => if x == p.key then some p.val else sget l x
def sput : List SV → Str → Value → Option (List SV)
  | [], _, _ => none
  | p :: l, x, v => if x == p.key then some (⟨x, v, p.born⟩ :: l) else (sput l x v).map (p :: ·)
def sset (l : List SV) (c : Nat) (x : Str) (v : Value) : List SV := match sput l x v with | some l' => l' | none => l ++ [⟨x, v, c⟩]
def sclk (l : List SV) (c : Nat) (x : Str) (v : Value) : Nat := match sput l x v with | some _ => c | none => c + 1
def sfind : List SV → Str → Nat → Option (Nat × Value)
  | [], _, _ => none
  | p :: l, x, i => if x == p.key then some (i, p.val) else sfind l x (i + 1)
theorem str_beq (x y : Str) : ((⟨⟨x⟩⟩ : ByteArray) == ⟨⟨y⟩⟩) = (x == y) := by
  show ((⟨x⟩ : Array UInt8) == ⟨y⟩) = (x == y)
  simp
theorem findNow_sent (x : Str) : ∀ (l : List SV) (i : Nat), Instr.findNow .string (str x) (l.map SV.ent) i = some (sfind l x i)
  | [], _ => rfl
  | p :: l, i => by
    simp only [List.map_cons, Instr.findNow, SV.ent, Instr.sameNow, sfind, str_beq]
    by_cases h : (x == p.key) = true
    · rw [h]; rfl
    · rw [Bool.not_eq_true] at h; rw [h]; exact findNow_sent x l (i + 1)
theorem sfind_get (x : Str) : ∀ (l : List SV) (i : Nat), (sfind l x i).map (·.2) = sget l x
  | [], _ => rfl
  | p :: l, i => by
    simp only [sfind, sget]; split
    · rfl
    · exact sfind_get x l (i + 1)
theorem sfind_put (x : Str) (v : Value) : ∀ (l : List SV) (i : Nat), (sfind l x i = none ∧ sput l x v = none) ∨ ∃ j u p l', sfind l x i = some (i + j, u) ∧ l[j]? = some p ∧ x = p.key ∧ sput l x v = some l' ∧ l' = l.modify j (fun p => ⟨x, v, p.born⟩)
  | [], _ => .inl ⟨rfl, rfl⟩
  | p :: l, i => by
    by_cases h : (x == p.key) = true
    · refine .inr ⟨0, p.val, p, ⟨x, v, p.born⟩ :: l, ?_, rfl, by simpa using h, ?_, by simp⟩
      · simp only [sfind, h, if_true]; rfl
      · simp only [sput, h, if_true]
    · rcases sfind_put x v l (i + 1) with ⟨h1, h2⟩ | ⟨j, u, q, l', h1, h2, h3, h4, h5⟩
      · refine .inl ⟨?_, ?_⟩
        · simp only [sfind, h]; exact h1
        · simp only [sput, h, h2]; rfl
      · refine .inr ⟨j + 1, u, q, p :: l', ?_, by simpa using h2, h3, ?_, ?_⟩
        · simp only [sfind, h]; rw [show i + (j + 1) = i + 1 + j from by omega]; exact h1
        · simp only [sput, h, h4]; rfl
        · subst h5; simp
theorem run_scheckKey {P : Program} {t : TypeId} (h : P.underlying t = some .string) (b : Bool) (x : Str) (w : World) : (Instr.checkKey b 10000 t (str x)).run P w = .ok () w := by
  show (Instr.checkKey b (9999 + 1) t (str x)).run P w = .ok () w
  unfold Instr.checkKey
  rw [Sem.run_bind, run_underlying h]; rfl
theorem run_sfindKey {P : Program} {t : TypeId} (h : P.underlying t = some .string) (x : Str) (l : List SV) (w : World) : (Instr.findKey t (str x) (l.map SV.ent)).run P w = .ok (sfind l x 0) w := by
  simp only [Instr.findKey, Sem.run_bind, run_underlying h, Result.andThen_ok, findNow_sent]; rfl
theorem run_sgetMap {P : Program} {w : World} {b : Nat} {l : List SV} {c : Nat} (h : w.heap[b]? = some (smobj l c)) : (getObj b).run P w = .ok (smobj l c) w := by
  simp [getObj, Sem.run, h, smobj]
theorem run_ssetMap {P : Program} {w : World} {b : Nat} {l : List SV} {c : Nat} (h : w.heap[b]? = some (smobj l c)) (o' : Obj) : (setObj b o').run P w = .ok () (setObjAt w b o') := by
  simp [setObj, Sem.run, h, setObjAt, smobj]

theorem run_slookup {P : Program} {w : World} {b : Nat} {l : List SV} {c : Nat} {t kt e : TypeId} {z : Value} {x : Str} {ok : Bool} (ht : P.underlying t = some (.map kt e)) (hk : P.underlying kt = some .string) (hz : ∀ w, (zeroValue e).run P w = .ok z w)
    (h : w.heap[b]? = some (smobj l c)) : (Instr.lookup t (.map (some b)) (str x) ok).run P w = .ok (if ok then .tuple #[(sget l x).getD z, .bool (sget l x).isSome] else (sget l x).getD z) w := by
  simp only [Instr.lookup, Sem.run_bind, run_underlying ht, Result.andThen_ok, run_sgetMap h, smobj, Sem.run_pure, run_scheckKey hk, run_sfindKey hk]
  have hg := sfind_get x l 0
  cases hf : sfind l x 0 with
  | none => rw [hf] at hg; rw [← hg]; simp [Sem.run_bind, hz]
  | some q => rw [hf] at hg; rw [← hg]; simp
theorem run_skeyStays {P : Program} {w : World} (x : Str) : (Instr.keyThatStays (str x) (str x)).run P w = .ok (str x) w := by
  unfold Instr.keyThatStays
  rw [show Instr.sameBits 10000 (str x) (str x) = true from by simp [Instr.sameBits, str_beq]]; rfl
theorem run_smapUpdate {P : Program} {w : World} {b : Nat} {l : List SV} {c : Nat} {t kt e : TypeId} {x : Str} {v : Value} (ht : P.underlying t = some (.map kt e)) (hk : P.underlying kt = some .string)
    (h : w.heap[b]? = some (smobj l c)) : (Instr.mapUpdate t (.map (some b)) (str x) v).run P w = .ok () (setObjAt w b (smobj (sset l c x v) (sclk l c x v))) := by
  simp only [Instr.mapUpdate, Sem.run_bind, run_underlying ht, Result.andThen_ok, run_sgetMap h, smobj, run_scheckKey hk, run_sfindKey hk]
  rcases sfind_put x v l 0 with ⟨h1, h2⟩ | ⟨j, u, p, l', h1, h2, h3, h4, h5⟩
  · rw [h1]
    simp only [sset, sclk, h2]
    rw [run_ssetMap h]; simp [SV.ent]
  · rw [h1]
    have e1 : ((l.map SV.ent).toArray[0 + j]?) = some (SV.ent p) := by simp [h2]
    have e2 : (Array.mk (l.map SV.ent))[0 + j]? = some (SV.ent p) := e1
    simp only [Sem.run_bind, e2, Option.map_some, Option.getD_some]
    rw [show (SV.ent p).key = str x from by rw [h3]; rfl, run_skeyStays]
    simp only [Result.andThen_ok, sset, sclk, h4]
    rw [run_ssetMap h]
    congr 3
    subst h5
    rw [Nat.zero_add]
    apply Array.ext'
    rw [Array.toList_modify]
    exact map_modify' SV.ent _ _ (fun x => rfl) l j

section rl
variable {P : Program} {ops : Array Oper} {Q : Exit → Act → World → Prop} {N : Nat} {rest : List Oper} {L : Env} {w0 w : World} {M0 M : Mem} {Hs : List HO} {d : Nat} {ty : TypeId} {ps : String} {af : Array Edge}
theorem RL.smakeMap {t : TypeId} (hS : St w0 M0 w M Hs) (hd : Nat.blt d N = true)
    (h : ∀ w' b, St w0 M0 w' M (.raw b (smobj [] 0) :: Hs) → RL P ops Q N rest ((d, true, .map (some b)) :: L) w') : RL P ops Q N (⟨some d, .makeMap t none, ty, ps, af, none⟩ :: rest) L w := by
  intro a hs
  refine wpList_plain rfl fun K hK => ?_
  have key : (execOp a.eval ⟨some d, .makeMap t none, ty, ps, af, none⟩).run P w = .ok (.value (.map (some w.heap.size))) (w.alloc (.map #[] 0)) := rfl
  simp only [Oper.wp, key, Oper.upon_value]
  exact hK _ _ (h _ _ (hS.newRaw (smobj [] 0)) _ (hs.put hd true _))
theorem RL.smapUpdate {t kt e : TypeId} {m x y : Operand} {i b c c' : Nat} {l l' : List SV} {n : Str} {v : Value} {Hs' : List HO} (ins : Bool) (hS : St w0 M0 w M Hs) (hi : Hs[i]? = some (.raw b (smobj l c))) (hm : Opd L true m (.map (some b))) (hx : Opd L true x (str n)) (hy : Opd L true y v)
    (ht : P.underlying t = some (.map kt e)) (hk : P.underlying kt = some .string) (hl : sset l c n v = l') (hc : sclk l c n v = c') (hHs : Hs.set i (.raw b (smobj l' c')) = Hs')
    (h : ∀ w', St w0 M0 w' M Hs' → RL P ops Q N rest L w') : RL P ops Q N (⟨none, if ins then .insert t m x y else .mapUpdate t m x y, ty, ps, af, none⟩ :: rest) L w := by
  intro a hs
  refine wpList_plain rfl fun K hK => ?_
  have hb := (hS.obj hi).2.1
  have key : (execOp a.eval ⟨none, if ins then .insert t m x y else .mapUpdate t m x y, ty, ps, af, none⟩).run P w = .ok .skip (setObjAt w b (smobj l' c')) := by
    have := run_smapUpdate (P := P) (x := n) (v := v) ht hk hb
    cases ins <;> simp only [execOp, hm a N hs rfl, hx a N hs rfl, hy a N hs rfl, Bool.false_eq_true, if_true, if_false] <;> rw [Sem.run_bind, this, hl, hc] <;> rfl
  simp only [Oper.wp, key, Oper.upon_skip]
  exact hK _ _ (h _ (hHs ▸ hS.setRaw hi _) _ hs)
end rl
section pv
variable {P : Program} {C : World → Prop} {L : Env} {W : Bool} {d : Option Tmp} {ty : TypeId} {ps : String} {af : Array Edge} {gd : Option (Nat × Bool)} {w0 w : World} {M0 M : Mem} {Hs : List HO}
theorem PV.slookup {t kt e : TypeId} {x y : Operand} {i b c : Nat} {l : List SV} {n : Str} {z v : Value} (hS : St w0 M0 w M Hs) (hC : ∀ w', C w' → Ext w w') (hi : Hs[i]? = some (.raw b (smobj l c))) (hx : Opd L W x (.map (some b))) (hy : Opd L W y (str n))
    (ht : P.underlying t = some (.map kt e)) (hk : P.underlying kt = some .string) (hz : ∀ w, (zeroValue e).run P w = .ok z w) (hv : (sget l n).getD z = v) : PV P C L W ⟨d, .lookup t x y false, ty, ps, af, gd⟩ v := by
  intro a N hs hW w' hw'
  have hb := ((hS.ext (hC w' hw')).obj hi).2.1
  have := run_slookup (P := P) (x := n) (ok := false) ht hk hz hb
  simp only [execOp, hx a N hs hW, hy a N hs hW]; rw [Sem.run_bind, this, ← hv]; rfl
theorem PV.slookupOk {t kt e : TypeId} {x y : Operand} {i b c : Nat} {l : List SV} {n : Str} {z v : Value} {q : Bool} (hS : St w0 M0 w M Hs) (hC : ∀ w', C w' → Ext w w') (hi : Hs[i]? = some (.raw b (smobj l c))) (hx : Opd L W x (.map (some b))) (hy : Opd L W y (str n))
    (ht : P.underlying t = some (.map kt e)) (hk : P.underlying kt = some .string) (hz : ∀ w, (zeroValue e).run P w = .ok z w) (hv : (sget l n).getD z = v) (hq : (sget l n).isSome = q) : PV P C L W ⟨d, .lookup t x y true, ty, ps, af, gd⟩ (.tuple #[v, .bool q]) := by
  intro a N hs hW w' hw'
  have hb := ((hS.ext (hC w' hw')).obj hi).2.1
  have := run_slookup (P := P) (x := n) (ok := true) ht hk hz hb
  simp only [execOp, hx a N hs hW, hy a N hs hW]; rw [Sem.run_bind, this, ← hv, ← hq]; rfl
end pv
end Go.Eng
namespace Go.Eng
open Go.RowKit

theorem sget_set (n : Str) (v : Value) (c : Nat) (x : Str) : ∀ l : List SV, sget (sset l c n v) x = if x == n then some v else sget l x := by
  have put : ∀ l l' : List SV, sput l n v = some l' → sget l' x = if x == n then some v else sget l x := by
    intro l
    induction l with
    | nil => intro l' h; cases h
    | cons p l ih =>
      intro l' h
      unfold sput at h
      split at h
      · rename_i he
        cases h
        have he' : n = p.key := by simpa using he
        subst he'
        show (if x == p.key then some v else sget l x) = if x == p.key then some v else (if x == p.key then some p.val else sget l x)
        split <;> rfl
      · rename_i he
        cases hs : sput l n v with
        | none => rw [hs] at h; cases h
        | some l2 =>
          rw [hs] at h
          cases h
          show (if x == p.key then some p.val else sget l2 x) = _
          rw [ih l2 hs]
          show _ = if x == n then some v else (if x == p.key then some p.val else sget l x)
          by_cases hx : x = n
          · subst hx; simp [he]
          · simp [hx]
  have no : ∀ l : List SV, sput l n v = none → sget (l ++ [⟨n, v, c⟩]) x = if x == n then some v else sget l x := by
    intro l
    induction l with
    | nil => intro _; rfl
    | cons p l ih =>
      intro h
      unfold sput at h
      split at h
      · cases h
      · rename_i he
        have hs : sput l n v = none := by cases hs : sput l n v with | none => rfl | some l2 => rw [hs] at h; cases h
        show (if x == p.key then some p.val else sget (l ++ [⟨n, v, c⟩]) x) = if x == n then some v else (if x == p.key then some p.val else sget l x)
        rw [ih hs]
        by_cases hx : x = n
        · subst hx; simp [he]
        · simp [hx]
  intro l
  unfold sset
  cases hs : sput l n v with
  | none => exact no l hs
  | some l' => exact put l l' hs
section
variable {c : Cx} {B : Exit → Act → World → Prop} {k k' : List Fr} {m : Md} {s s' : XS} {O : Prop} {E : List Ck} {all : Array Oper} {rest : List Oper} {d : Nat} {ty : TypeId} {ps : String} {af : Array Edge}
/-- A new map. -/
theorem xmapNew (kk : Nat) {t : TypeId} (h : run c.T c.N k m s = ⟨k', .ops all (⟨some d, .makeMap t none, ty, ps, af, none⟩ :: rest), s', O, E⟩) (hE : EOk E) (hO : O) (hd : Nat.blt d c.N = true)
    (hn : ∀ b, XG c B k' (.ops all rest) ⟨s'.F, (kk, .ho (.raw b (smobj [] 0))) :: s'.H, (d, .t, .v (.map (some b))) :: s'.L⟩) : XG c B k m s :=
  xop h hE hO fun w M hX => RL.smakeMap hX.st hd fun w' b hS => xback (hn b) ⟨hS, hX.f, hX.le⟩ rfl
/-- An entry is put in. -/
theorem xmapPut (ins : Bool) (kk : Nat) {t kt e : TypeId} {x y z : Operand} {b cl : Nat} {l : List SV} {n : Str} {u : XV} {E1 E2 E3 : List Ck} (l' : List SV) (c' : Nat) (h : run c.T c.N k m s = ⟨k', .ops all (⟨none, if ins then .insert t x y z else .mapUpdate t x y z, ty, ps, af, none⟩ :: rest), s', O, E⟩) (hE : EOk E) (hO : O)
    (hx : opd s'.L .t x = some (.v (.map (some b)), E1)) (hy : opd s'.L .t y = some (.v (str n), E2)) (hz : opd s'.L .t z = some (u, E3)) (hE1 : EOk (E1 ++ (E2 ++ E3))) (hk : hlook s'.H kk = some (.ho (.raw b (smobj l cl))))
    (ht : c.P.underlying t = some (.map kt e)) (hkt : c.P.underlying kt = some .string) (hl : sset l cl n u.d = l') (hc : sclk l cl n u.d = c')
    (hn : XG c B k' (.ops all rest) ⟨s'.F, hset s'.H kk (.ho (.raw b (smobj l' c'))), s'.L⟩) : XG c B k m s := by
  refine xop h hE hO fun w M hX => ?_
  obtain ⟨i, hi, hset'⟩ := hd_get (Hr := c.Hr) hk
  exact RL.smapUpdate ins hX.st hi (opd_d hx hE1.app.1) (opd_d hy hE1.app.2.app.1) (opd_d hz hE1.app.2.app.2) ht hkt hl hc (Hs' := HD (hset s'.H kk (.ho (.raw b (smobj l' c')))) ++ c.Hr) (hset' (.ho (.raw b (smobj l' c')))).symm fun w' hS => xback hn ⟨hS, hX.f, hX.le⟩ rfl
/-- An entry is looked up; with whether it is there. -/
theorem xmapGet (kk : Nat) {t kt e : TypeId} {x y : Operand} {gd : Option (Nat × Bool)} {W : Gd} {b cl : Nat} {l : List SV} {n : Str} {z v : Value} {E1 : List Ck} (h : run c.T c.N k m s = ⟨k', .ops all (⟨some d, .lookup t x y false, ty, ps, af, gd⟩ :: rest), s', O, E⟩) (hE : EOk E) (hO : O) (hg : (gdOf all s'.L gd, Nat.blt d c.N) = (some W, true))
    (hx : opd2 s'.L W x y = some (.v (.map (some b)), .v (str n), E1)) (hE1 : EOk E1) (hk : hlook s'.H kk = some (.ho (.raw b (smobj l cl))))
    (ht : c.P.underlying t = some (.map kt e)) (hkt : c.P.underlying kt = some .string) (hz : ∀ w, (zeroValue e).run c.P w = .ok z w) (hv : (sget l n).getD z = v)
    (hn : XG c B k' (.ops all rest) ⟨s'.F, s'.H, (d, W, .v v) :: s'.L⟩) : XG c B k m s :=
  xpv (.v v) h hE hO hg (fun w M hX => by
    obtain ⟨i, hi, _⟩ := hd_get (Hr := c.Hr) hk
    obtain ⟨hx1, hx2⟩ := opd2_d hx hE1
    exact .slookup hX.st extEq hi hx1 hx2 ht hkt hz hv) hn
theorem xmapGetOk (kk : Nat) {t kt e : TypeId} {x y : Operand} {gd : Option (Nat × Bool)} {W : Gd} {b cl : Nat} {l : List SV} {n : Str} {z v : Value} {q : Bool} {E1 : List Ck} (h : run c.T c.N k m s = ⟨k', .ops all (⟨some d, .lookup t x y true, ty, ps, af, gd⟩ :: rest), s', O, E⟩) (hE : EOk E) (hO : O) (hg : (gdOf all s'.L gd, Nat.blt d c.N) = (some W, true))
    (hx : opd2 s'.L W x y = some (.v (.map (some b)), .v (str n), E1)) (hE1 : EOk E1) (hk : hlook s'.H kk = some (.ho (.raw b (smobj l cl))))
    (ht : c.P.underlying t = some (.map kt e)) (hkt : c.P.underlying kt = some .string) (hz : ∀ w, (zeroValue e).run c.P w = .ok z w) (hv : (sget l n).getD z = v) (hq : (sget l n).isSome = q)
    (hn : XG c B k' (.ops all rest) ⟨s'.F, s'.H, (d, W, .tu [.v v, .v (.bool q)]) :: s'.L⟩) : XG c B k m s :=
  xpv (.tu [.v v, .v (.bool q)]) h hE hO hg (fun w M hX => by
    obtain ⟨i, hi, _⟩ := hd_get (Hr := c.Hr) hk
    obtain ⟨hx1, hx2⟩ := opd2_d hx hE1
    exact .slookupOk hX.st extEq hi hx1 hx2 ht hkt hz hv hq) hn
end
end Go.Eng
