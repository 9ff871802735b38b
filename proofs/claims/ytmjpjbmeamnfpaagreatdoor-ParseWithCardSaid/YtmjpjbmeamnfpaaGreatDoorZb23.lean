/-
  The parser of filters: those that call each other.
-/
import Derived.Test.YtmjpjbmeamnfpaaGreatDoorZb22
set_option linter.unusedVariables false
set_option linter.unusedSimpArgs false
set_option maxRecDepth 100000
namespace Go.Proofs.YtmjpjbmeamnfpaaGreatDoor
open Go.Eng

/-- The contracts, for so much of a twin's measure. -/
abbrev CtF (k : Int) (fn : FuncId) (tw : List Tk → Int → Int → PR Tf) (f : Nat) (P : List Tk → Int → Prop) : Prop :=
  ∀ {w0 wv : World} {M0 M : Mem} {Rs : List HO} {b : Nat} {v : Value} {l : List Tk} {i d : Int} {r : PR Tf}, tw l d i = r → PIn w0 wv M0 M Rs b v l i d → 0 ≤ d → d ≤ 64 → 8 * (len l - i) + k ≤ (f : Int) → P l i → Calls Tryz.prog fn [.pointer (some ⟨b, 0, none⟩)].toArray wv (EndF w0 M0 M Rs b v d r)
abbrev anyP : List Tk → Int → Prop := fun _ _ => True
structure AllW (f : Nat) : Prop where
  fil : CtF 4 24 (filA quoteP f) f anyP
  pos : CtF 3 49 (posA quoteP f) f anyP
  pri : CtF 2 81 (priA quoteP f) f anyP
  wor : CtF 1 123 (worA quoteP f) f fun l i => (at' l i).kind = 2
  eit : CtF 3 163 (eitA quoteP f) f anyP
  bot : CtF 2 214 (botA quoteP f) f anyP
  sin : CtF 1 249 (sinA quoteP f) f anyP
theorem filP {f : Nat} (H : ∀ g, g ≤ f → AllW g) : CtF 4 24 (filA quoteP (f + 1)) (f + 1) anyP := by
 intro w0 wv M0 M Rs b v l i d r0 e0 h hd0 hd hf _
 have hh := h
 obtain ⟨hS, hl, hg, ok, h0, h1⟩ := h
 have hfew := ok.few
 have hl0 := len_nonneg l
 rw [filA] at e0
 refine xenter (Hr := Rs) ttok Tryz.func24 rfl Tryz.ntmps24 [(0, kn v 9 l Tk.cells)] [(0, xBox b v i d)] [.bx 0 b 0] rfl hS (fc 0 hl (fun _ => rfl) fnil) (fun B hB => ?_) rfl
 cases hr : posA quoteP f l d i with
 | er ec p =>
  rw [hr] at e0; subst e0
  exact xcallE [0] rfl (eok rfl) (by omega) rfl Tryz.call49 rfl (eok rfl) rfl (fun w M hS hF => (H f (Nat.le_refl _)).pos hr ⟨hS, (hF.get (k := 0) rfl).sl, hg, ok, h0, h1⟩ hd0 hd (by omega) trivial) fun a w M hs hS hle => post_panic _ (hB.p ⟨M, rfl, hS, hle⟩ a hs)
 | ok x j =>
  have g := (all_good ok quoteP f).pos d i x j h0 h1 hr
  have hlt := g.lt
  rw [hr] at e0
  simp only [PR.bind] at e0
  refine xcallO [0] (fun h : SlH => .sl 1 h.v) [] (fun h => [(0, xBox b v j d), (1, pvF h.v x.flat)]) rfl (eok rfl) (by omega) rfl Tryz.call49 rfl rfl (eok rfl) rfl (fun w M hS hF => (H f (Nat.le_refl _)).pos hr ⟨hS, (hF.get (k := 0) rfl).sl, hg, ok, h0, h1⟩ hd0 hd (by omega) trivial) (fun _ => rfl) (fun _ => rfl) fun h1' _ => ?_
  refine xlit 2 [h1'] valI 1 23 valI_len rfl (eok rfl) (by omega) rfl (eok rfl) (fun w => by kernel_rfl) rfl fun v2 => ?_
  refine xknow 8 (knR [] []) (fun w M hX => ⟨Sl.nil M 1, strC_len, trivial⟩) ?_
  refine xloop (σ := Int × Value × List SlH × SlH × List Tf × Tf × Nat) (fun (j, vl, hs, h, xs, x, q) => ⟨[(0, kn v 9 l Tk.cells), (2, kn vl 1 (hs ++ [h]) valI), (8, knR hs (xs.map Tf.flat))], [(0, xBox b v j d), (2, .ho (ownHs vl (hs ++ [h]))), (1, pvF h.v x.flat)], [Z 0 (.bx 0 b 0), Z 3 (.sl 2 vl)]⟩)
    (fun (j, vl, hs, h, xs, x, q) => i < j ∧ j < len l ∧ GoodL (xs ++ [x]) j i ∧ 8 * (len l - j) + 1 ≤ (q : Int) ∧ q ≤ f ∧ hs.length = xs.length ∧ pipA quoteP q l d (xs ++ [x]) j = r0) (fun (j, vl, hs, h, xs, x, q) => (len l - j).toNat) (j, v2, [], h1', [], x, f) rfl (eok rfl) (by omega) rfl
    ⟨hlt, g.le, ⟨fun z hz => by rw [List.nil_append, List.mem_singleton] at hz; subst hz; exact ⟨g.pipe, g.name⟩, by rw [List.nil_append, flatF_one]; have := g.size; show _ + 1 ≤ _; omega⟩, by omega, Nat.le_refl _, rfl, e0⟩ ?_
  rintro ⟨j, vl, hs, h, xs, x, q⟩ ⟨hj0, hj1, hgl, hq, hqf, hhx, hR⟩
  have hsz := hgl.size
  have hx1 : len (xs ++ [x]) = len xs + 1 := by rw [len_app]; rfl
  have hxn := len_nonneg xs
  have hhl : len (hs ++ [h]) = len xs + 1 := by rw [len_app]; show (hs.length : Int) + 1 = _; rw [hhx]; rfl
  have hfn := len_nonneg (flatF (xs ++ [x]))
  cases q with
  | zero => exfalso; omega
  | succ q =>
  rw [pipA] at hR
  refine xcallK [0] (.v (.bool (isM l j [124]))) rfl (eok rfl) (by omega) Tryz.call50 rfl rfl (eok rfl) rfl (fun _ w M hS hF => isP_c [124] hS (hF.get (k := 0) rfl).sl (by omega) hj1) rfl ?_
  refine xbr rfl (eok rfl) (by omega) (fun hb1 => ?_) (fun hb1 => ?_)
  ·have hj2 := isM_lt ok (by omega) hj1 hb1
   rw [if_pos hb1] at hR
   cases hr2 : posA quoteP q l d (j + 1) with
   | er ec p =>
    rw [hr2] at hR; subst hR
    exact xcallE [0] rfl (eok rfl) (by simp only [zb] <;> omega) rfl Tryz.call49 rfl (eok rfl) rfl (fun w M hS hF => (H q (by omega)).pos hr2 ⟨hS, (hF.get (k := 0) rfl).sl, hg, ok, by omega, hj2⟩ hd0 hd (by omega) trivial) fun a w M hs hS hle => post_panic _ (hB.p ⟨M, rfl, hS.drop _ sub2, hle⟩ a hs)
   | ok y m =>
    have g2 := (all_good ok quoteP q).pos d _ y m (by omega) hj2 hr2
    have hlt2 := g2.lt
    rw [hr2] at hR
    simp only [PR.bind] at hR
    refine xcallO [0] (fun h : SlH => .sl 3 h.v) [] (fun h => [(0, xBox b v m d), (3, pvF h.v y.flat)]) rfl (eok rfl) (by simp only [zb] <;> omega) rfl Tryz.call49 rfl rfl (eok rfl) rfl (fun w M hS hF => (H q (by omega)).pos hr2 ⟨hS, (hF.get (k := 0) rfl).sl, hg, ok, by omega, hj2⟩ hd0 hd (by omega) trivial) (fun _ => rfl) (fun _ => rfl) fun h3 _ => ?_
    refine xlit 4 [h3] valI 1 23 valI_len rfl (eok rfl) (by omega) rfl (eok rfl) (fun w => by kernel_rfl) rfl fun v4 => ?_
    refine xapp 24 rfl (eok rfl) (by omega) rfl (eok rfl) rfl Tryz.underlying72 Tryz.type23 rfl rfl valI_one (by rw [hhl]; simp only [len_cons, len_nil]; omega) fun v' => ?_
    refine xtell 1 rfl ?_
    refine xknow 8 (knR (hs ++ [h]) ((xs ++ [x]).map Tf.flat)) (fun w M hX => ⟨Sl.nil M 1, strC_len, by rw [List.map_append]; exact RowsV.snoc (hX.sl 1 rfl) (hX.f.get (k := 8) rfl).more⟩) ?_
    refine run_ok rfl (eok rfl) (by omega) (xview ⟨_, [(4, .ho (ownHs v4 [h3])), (0, xBox b v m d), (1, pvF h3.v y.flat), (2, .ho (ownHs v' ((hs ++ [h]) ++ [h3])))], _⟩ rfl rfl rfl ?_)
    exact xround (m, v', hs ++ [h], h3, xs ++ [x], y, q) rfl (eok rfl) (by omega) rfl ⟨by omega, g2.le, hgl.snoc g2.pipe g2.name (by have := g2.size; omega), by omega, by omega, by rw [List.length_append, List.length_append, hhx]; rfl, hR⟩ (by show Int.toNat _ < Int.toNat _; omega)
  ·rw [if_neg (by rw [hb1]; decide)] at hR
   subst hR
   refine xcallO [1] (fun h : SlH => .sl 5 h.v) [] (fun u => [(5, pvF u.v (pipedF (xs ++ [x])).flat)]) rfl (eok rfl) (by omega) rfl Tryz.call51 rfl rfl (eok rfl) rfl (fun w M hS hF => piped_c vl hs h xs x hS (hF.get (k := 2) rfl).sl (hF.get (k := 8) rfl).more (fun y hy => (hgl.pipe y hy).1) (by omega)) (fun _ => rfl) (fun _ => rfl) fun h5 _ => ?_
   exact xret hB rfl rfl (eok rfl) (by omega) rfl (eok rfl) fun w M' hX => ⟨h5, M', rfl, trivial, hX.le, hX.sel [0, 5] rfl, fnil⟩
/-- Headers, the last one's row one's own; or none. -/
def RelL (zs : List Tf) (ls hs : List SlH) (h : SlH) (xs : List Tf) (X : Fl) : Prop := (zs = [] ∧ ls = [] ∧ hs = [] ∧ xs = []) ∨ ∃ x, zs = xs ++ [x] ∧ ls = hs ++ [h] ∧ X = x.flat ∧ hs.length = xs.length
theorem RelL.len {zs : List Tf} {ls hs : List SlH} {h : SlH} {xs : List Tf} {X : Fl} (r : RelL zs ls hs h xs X) : Eng.len ls = Eng.len zs := by
 rcases r with ⟨r1, r2, _, _⟩ | ⟨x, r1, r2, _, r3⟩
 ·rw [r1, r2]; rfl
 ·rw [r1, r2, len_app, len_app]; show (hs.length : Int) + 1 = (xs.length : Int) + 1; rw [r3]
theorem sufQ {w0 wv : World} {M0 M : Mem} {Rs : List HO} {b : Nat} {v : Value} {l : List Tk} {i d : Int} {r : PR Tf} (e : sufA l i = r) (hk : (at' l i).kind = 3 ∨ isM l i [91] = true) (h : PIn w0 wv M0 M Rs b v l i d) :
    Calls Tryz.prog 82 [.pointer (some ⟨b, 0, none⟩)].toArray wv (EndF w0 M0 M Rs b v d r) := by subst e; exact suffixP_c hk h
theorem postP {f : Nat} (H : ∀ g, g ≤ f → AllW g) : CtF 3 49 (posA quoteP (f + 1)) (f + 1) anyP := by
 intro w0 wv M0 M Rs b v l i d r0 e0 h hd0 hd hf _
 obtain ⟨hS, hl, hg, ok, h0, h1⟩ := h
 have hfew := ok.few
 have hl0 := len_nonneg l
 rw [posA] at e0
 refine xenter (Hr := Rs) ttok Tryz.func49 rfl Tryz.ntmps49 [(0, kn v 9 l Tk.cells)] [(0, xBox b v i d)] [.bx 0 b 0] rfl hS (fc 0 hl (fun _ => rfl) fnil) (fun B hB => ?_) rfl
 refine xcallK [0] (.v (.bool (isM l i [46]))) rfl (eok rfl) (by omega) Tryz.call50 rfl rfl (eok rfl) rfl (fun _ w M hS hF => isP_c [46] hS (hF.get (k := 0) rfl).sl h0 h1) rfl ?_
 refine xnil 2 3 23 1 valI valI_len rfl ?_
 cases hr : priA quoteP f l d i with
 | er ec p =>
  rw [hr] at e0; subst e0
  exact xcallE [0] rfl (eok rfl) (by omega) rfl Tryz.call81 rfl (eok rfl) rfl (fun w M hS hF => (H f (Nat.le_refl _)).pri hr ⟨hS, (hF.get (k := 0) rfl).sl, hg, ok, h0, h1⟩ hd0 hd (by omega) trivial) fun a w M hs hS hle => post_panic _ (hB.p ⟨M, rfl, hS.drop _ (List.sublist_cons_self _ _), hle⟩ a hs)
 | ok x j =>
  have g := (all_good ok quoteP f).pri d i x j h0 h1 hr
  have hlt := g.lt
  have hle := g.le
  rw [hr] at e0
  simp only [PR.bind] at e0
  refine xcallO [0] (fun h : SlH => .sl 1 h.v) [] (fun h => [(0, xBox b v j d), (1, pvF h.v x.flat)]) rfl (eok rfl) (by omega) rfl Tryz.call81 rfl rfl (eok rfl) rfl (fun w M hS hF => (H f (Nat.le_refl _)).pri hr ⟨hS, (hF.get (k := 0) rfl).sl, hg, ok, h0, h1⟩ hd0 hd (by omega) trivial) (fun _ => rfl) (fun _ => rfl) fun h1' _ => ?_
  refine xlit 4 [h1'] valI 1 23 valI_len rfl (eok rfl) (by omega) rfl (eok rfl) (fun w => by kernel_rfl) rfl fun v4 => ?_
  refine xapp 24 rfl (eok rfl) (by omega) rfl (eok rfl) rfl Tryz.underlying72 Tryz.type23 rfl rfl valI_one (by simp only [len_cons, len_nil]; omega) fun v2 => ?_
  refine xcallK [0] (.v (.bool (isM l j [91]))) rfl (eok rfl) (by omega) Tryz.call50 rfl rfl (eok rfl) rfl (fun _ w M hS hF => isP_c [91] hS (hF.get (k := 0) rfl).sl (by omega) hle) rfl ?_
  refine xknow 8 (knR [] []) (fun w M hX => ⟨Sl.nil M 1, strC_len, trivial⟩) ?_
  refine xbrj 0 (fun s => ∃ (zs : List Tf) (ls hs : List SlH) (h : SlH) (vl : Value) (xs : List Tf) (X : Fl), RelL zs ls hs h xs X ∧ (zs = [] → isM l j [91] = true) ∧ GoodL zs j i ∧ sufsA l.length l zs j = r0 ∧
    s = ⟨[(0, kn v 9 l Tk.cells), (2, kn vl 1 ls valI), (8, knR hs (xs.map Tf.flat))], [(0, xBox b v j d), (2, .ho (ownHs vl ls)), (1, pvF h.v X)], [Z 0 (.bx 0 b 0), Z 3 (.sl 2 vl)]⟩) rfl (eok rfl) (by simp only [zb] <;> omega) rfl (fun hb1 => ?_) (fun hb1 => ?_) ?_
  ·rw [if_pos hb1] at e0
   rw [Bool.and_eq_true] at hb1
   refine run_ok rfl (eok rfl) (by omega) (xnil 2 3 23 1 valI valI_len rfl ?_)
   refine xnilP0 1 51 11 Tm.cells Tm.cells_len ?_
   exact xmeet _ rfl (eok rfl) (by omega) rfl ⟨[], [], [], ⟨none, 0, 0⟩, .slice none 0 0, [], [], .inl ⟨rfl, rfl, rfl, rfl⟩, fun _ => hb1.2, ⟨fun z hz => (by cases hz), (by show (0 : Int) + 0 ≤ _; omega)⟩, e0, rfl⟩
  ·rw [if_neg (by rw [hb1]; decide)] at e0
   exact xmeet _ rfl (eok rfl) (by omega) rfl ⟨[x], [h1'], [], h1', v2, [], x.flat, .inr ⟨x, rfl, rfl, rfl, rfl⟩, fun q => (by cases q), ⟨fun z hz => (by rw [List.mem_singleton] at hz; subst hz; exact ⟨g.pipe, g.name⟩), (by rw [flatF_one]; have := g.size; show _ + 1 ≤ _; omega)⟩, e0, rfl⟩
  rintro s ⟨zs, ls, hs, h, vl, xs, X, hrel, hz, hgl, hR, rfl⟩
  refine xloop (σ := Int × Value × List SlH × List SlH × SlH × List Tf × Fl × List Tf × Nat) (fun (j, vl, ls, hs, h, xs, X, zs, q) => ⟨[(0, kn v 9 l Tk.cells), (2, kn vl 1 ls valI), (8, knR hs (xs.map Tf.flat))], [(0, xBox b v j d), (2, .ho (ownHs vl ls)), (1, pvF h.v X)], [Z 0 (.bx 0 b 0), Z 3 (.sl 2 vl)]⟩)
    (fun (j, vl, ls, hs, h, xs, X, zs, q) => i < j ∧ j < len l ∧ RelL zs ls hs h xs X ∧ (zs = [] → isM l j [91] = true) ∧ GoodL zs j i ∧ len l ≤ j + (q : Int) ∧ sufsA q l zs j = r0) (fun (j, vl, ls, hs, h, xs, X, zs, q) => (len l - j).toNat) (j, vl, ls, hs, h, xs, X, zs, l.length) rfl (eok rfl) (by omega) rfl
    ⟨hlt, hle, hrel, hz, hgl, by unfold len at *; omega, hR⟩ ?_
  clear hrel hz hgl hR zs ls hs h vl xs X
  rintro ⟨j, vl, ls, hs, h, xs, X, zs, q⟩ ⟨hj0, hj1, hrel, hz, hgl, hq, hR⟩
  have hsz := hgl.size
  have hll := hrel.len
  have hzn := len_nonneg zs
  have hfn := len_nonneg (flatF zs)
  cases q with
  | zero => exfalso; omega
  | succ q =>
  rw [sufsA] at hR
  refine xcallK [0] (xTk (at' l j)) rfl (eok rfl) (by omega) Tryz.call25 rfl rfl (eok rfl) rfl (fun _ w M hS hF => now_c hS (hF.get (k := 0) rfl).sl (by omega) hj1) rfl ?_
  refine xcallK [0] (.v (.bool (isM l j [91]))) rfl (eok rfl) (by omega) Tryz.call50 rfl rfl (eok rfl) rfl (fun _ w M hS hF => isP_c [91] hS (hF.get (k := 0) rfl).sl (by omega) hj1) rfl ?_
  refine xbr rfl (eok rfl) (by simp only [zb] <;> omega) (fun hb1 => ?_) (fun hb1 => ?_) <;> simp only [zb] at hb1
  ·rw [if_pos hb1] at hR
   cases hr2 : sufA l j with
   | er ec p =>
    rw [hr2] at hR; subst hR
    exact xcallE [0] rfl (eok rfl) (by omega) rfl Tryz.call82 rfl (eok rfl) rfl (fun w M hS hF => sufQ hr2 hb1 ⟨hS, (hF.get (k := 0) rfl).sl, hg, ok, by omega, hj1⟩) fun a w M hs hS hle => post_panic _ (hB.p ⟨M, rfl, hS.drop _ sub2, hle⟩ a hs)
   | ok y m =>
    obtain ⟨g2, hy1⟩ := suf_ok ok (by omega) hj1 hb1 hr2
    have hlt2 := g2.lt
    rw [hr2] at hR
    simp only [PR.bind] at hR
    refine xcallO [0] (fun h : SlH => .sl 3 h.v) [] (fun h => [(0, xBox b v m d), (3, pvF h.v y.flat)]) rfl (eok rfl) (by omega) rfl Tryz.call82 rfl rfl (eok rfl) rfl (fun w M hS hF => sufQ hr2 hb1 ⟨hS, (hF.get (k := 0) rfl).sl, hg, ok, by omega, hj1⟩) (fun _ => rfl) (fun _ => rfl) fun h3 _ => ?_
    refine xlit 4 [h3] valI 1 23 valI_len rfl (eok rfl) (by omega) rfl (eok rfl) (fun w => by kernel_rfl) rfl fun v4 => ?_
    refine xapp 24 rfl (eok rfl) (by omega) rfl (eok rfl) rfl Tryz.underlying72 Tryz.type23 rfl rfl valI_one (by rw [hll]; simp only [len_cons, len_nil]; omega) fun v' => ?_
    rcases hrel with ⟨q1, q2, q3, q4⟩ | ⟨x, q1, q2, q3, q4⟩
    ·subst q1; subst q2; subst q3; subst q4
     refine run_ok rfl (eok rfl) (by omega) (xview ⟨_, [(4, .ho (ownHs v4 [h3])), (0, xBox b v m d), (1, pvF h3.v y.flat), (2, .ho (ownHs v' ([] ++ [h3]))), (7, pvF h.v X)], _⟩ rfl rfl rfl ?_)
     exact xround (m, v', [h3], [], h3, [], y.flat, [y], q) rfl (eok rfl) (by omega) rfl ⟨by omega, g2.le, .inr ⟨y, rfl, rfl, rfl, rfl⟩, fun e => (by cases e), hgl.snoc g2.pipe g2.name (by have := g2.size; omega), by omega, hR⟩ (by show Int.toNat _ < Int.toNat _; omega)
    ·subst q1; subst q2; subst q3
     refine xtell 1 rfl ?_
     refine xknow 8 (knR (hs ++ [h]) ((xs ++ [x]).map Tf.flat)) (fun w M hX => ⟨Sl.nil M 1, strC_len, by rw [List.map_append]; exact RowsV.snoc (hX.sl 1 rfl) (hX.f.get (k := 8) rfl).more⟩) ?_
     refine run_ok rfl (eok rfl) (by omega) (xview ⟨_, [(4, .ho (ownHs v4 [h3])), (0, xBox b v m d), (1, pvF h3.v y.flat), (2, .ho (ownHs v' ((hs ++ [h]) ++ [h3])))], _⟩ rfl rfl rfl ?_)
     exact xround (m, v', (hs ++ [h]) ++ [h3], hs ++ [h], h3, xs ++ [x], y.flat, (xs ++ [x]) ++ [y], q) rfl (eok rfl) (by omega) rfl ⟨by omega, g2.le, .inr ⟨y, rfl, rfl, rfl, by rw [List.length_append, List.length_append, q4]; rfl⟩, fun e => (by simp at e), hgl.snoc g2.pipe g2.name (by have := g2.size; omega), by omega, hR⟩ (by show Int.toNat _ < Int.toNat _; omega)
  ·have hnb : ¬ ((at' l j).kind = 3 ∨ isM l j [91] = true) := by
    rintro (q1 | q1)
    · exact hb1.1 q1
    · rw [q1] at hb1; cases hb1.2
   rw [if_neg hnb] at hR
   subst hR
   rcases hrel with ⟨q1, _⟩ | ⟨x, q1, q2, q3, q4⟩
   ·exact absurd (.inr (hz q1)) hnb
   ·subst q1; subst q2; subst q3
    refine xcallO [1] (fun h : SlH => .sl 5 h.v) [] (fun u => [(5, pvF u.v (pipedF (xs ++ [x])).flat)]) rfl (eok rfl) (by omega) rfl Tryz.call51 rfl rfl (eok rfl) rfl (fun w M hS hF => piped_c vl hs h xs x hS (hF.get (k := 2) rfl).sl (hF.get (k := 8) rfl).more (fun y hy => (hgl.pipe y hy).1) (by omega)) (fun _ => rfl) (fun _ => rfl) fun h5 _ => ?_
    exact xret hB rfl rfl (eok rfl) (by omega) rfl (eok rfl) fun w M' hX => ⟨h5, M', rfl, trivial, hX.le, hX.sel [0, 5] rfl, fnil⟩
theorem openQ {w0 wv : World} {M0 M : Mem} {Rs : List HO} {b : Nat} {v : Value} {l : List Tk} {i d : Int} {r : PR Unit} (m : Str) (e : openA l d i m = r) (h : PIn w0 wv M0 M Rs b v l i d) (hd : 0 ≤ d ∧ d ≤ 64) :
    Calls Tryz.prog 164 [.pointer (some ⟨b, 0, none⟩), str m].toArray wv (StepC w0 M0 M Rs b v r (d + 1)) := by subst e; exact openP_c m h.st h.sl h.h0 h.h1 (by have := h.ok.few; omega) hd
theorem shutQ {w0 wv : World} {M0 M : Mem} {Rs : List HO} {b : Nat} {v : Value} {l : List Tk} {i d d2 : Int} {r : PR Unit} (m : Str) (e : needA l i m = r) (h : PIn w0 wv M0 M Rs b v l i d) (hd : 0 ≤ d ∧ d ≤ 65) (hd2 : d - 1 = d2) :
    Calls Tryz.prog 168 [.pointer (some ⟨b, 0, none⟩), str m].toArray wv (StepC w0 M0 M Rs b v r d2) := by subst e; subst hd2; exact shutP_c m h.st h.sl h.h0 h.h1 (by have := h.ok.few; omega) hd
theorem callP_c {w0 wv : World} {M0 M : Mem} {Rs : List HO} {b : Nat} {v : Value} {l : List Tk} {i d : Int} {fn : FuncId} {a bb : List Value} (X : Int → PR Tf) {r : PR Tf} (e0 : callA l d i X = r) (h : PIn w0 wv M0 M Rs b v l i d) (hd0 : 0 ≤ d) (hd : d ≤ 64) (ct : CT Tryz.prog fn)
    (hX : ∀ x k, i + 1 < len l → X (i + 1) = .ok x k → 0 ≤ k ∧ k < len l)
    (hin : i + 1 < len l → d < 64 → ∀ w M', St w0 M0 w M' (pBox b v (i + 1) (d + 1) :: Rs) → Sl M' 9 l.length v (l.flatMap Tk.cells) → Calls Tryz.prog fn (a ++ [] ++ bb).toArray w (EndF w0 M0 M' Rs b v (d + 1) (X (i + 1)))) :
    Calls Tryz.prog 126 [.pointer (some ⟨b, 0, none⟩), .func (.func fn) ⟨a⟩ ⟨bb⟩].toArray wv (EndF w0 M0 M Rs b v d r) := by
 have hh := h
 obtain ⟨hS, hl, hg, ok, h0, h1⟩ := h
 have hfew := ok.few
 unfold callA at e0
 refine xenter (Hr := Rs) ttok Tryz.func126 rfl Tryz.ntmps126 [(0, kn v 9 l Tk.cells)] [(0, xBox b v i d)] [.bx 0 b 0, .v (.func (.func fn) ⟨a⟩ ⟨bb⟩)] rfl hS (fc 0 hl (fun _ => rfl) fnil) (fun B hB => ?_) rfl
 cases ho : openA l d i [40] with
 | er ec p =>
  rw [ho] at e0; subst e0
  exact xcallE [0] rfl (eok rfl) (by omega) rfl Tryz.call164 rfl (eok rfl) rfl (fun w M hS hF => openQ _ ho ⟨hS, (hF.get (k := 0) rfl).sl, hg, ok, h0, h1⟩ ⟨hd0, hd⟩) fun a w M hs hS hle => post_panic _ (hB.p ⟨M, rfl, hS, hle⟩ a hs)
 | ok u j =>
  obtain ⟨rfl, hj1, hd64, _⟩ := open_ok ok h0 h1 ho
  rw [ho] at e0
  simp only [PR.bind] at e0
  refine xcallO [0] (fun _ : Unit => .tu []) [] (fun _ => [(0, xBox b v (i + 1) (d + 1))]) rfl (eok rfl) (by omega) rfl Tryz.call164 rfl rfl (eok rfl) rfl (fun w M hS hF => openQ _ ho ⟨hS, (hF.get (k := 0) rfl).sl, hg, ok, h0, h1⟩ ⟨hd0, hd⟩) (fun _ => rfl) (fun _ => rfl) fun _ _ => ?_
  cases hx : X (i + 1) with
  | er ec p =>
   rw [hx] at e0; subst e0
   exact xcallE [0] rfl (eok rfl) (by omega) rfl ct rfl (eok rfl) rfl (fun w M hS hF => by have := hin hj1 hd64 w M hS (hF.get (k := 0) rfl).sl; rw [hx] at this; exact this) fun a w M hs hS hle => post_panic _ (hB.p ⟨M, rfl, hS, hle⟩ a hs)
  | ok x k =>
   obtain ⟨hk0, hk1⟩ := hX x k hj1 hx
   rw [hx] at e0
   simp only at e0
   refine xcallO [0] (fun h : SlH => .sl 1 h.v) [] (fun h => [(0, xBox b v k (d + 1)), (1, pvF h.v x.flat)]) rfl (eok rfl) (by omega) rfl ct rfl rfl (eok rfl) rfl (fun w M hS hF => by have := hin hj1 hd64 w M hS (hF.get (k := 0) rfl).sl; rw [hx] at this; exact this) (fun _ => rfl) (fun _ => rfl) fun h1' _ => ?_
   cases hn : needA l k [41] with
   | er ec p =>
    rw [hn] at e0; subst e0
    exact xcallE [0] rfl (eok rfl) (by omega) rfl Tryz.call168 rfl (eok rfl) rfl (fun w M hS hF => shutQ (d2 := d) _ hn ⟨hS, (hF.get (k := 0) rfl).sl, hg, ok, hk0, hk1⟩ ⟨by omega, by omega⟩ (by omega)) fun a w M hs hS hle => post_panic _ (hB.p ⟨M, rfl, hS.drop _ (List.sublist_cons_self _ _), hle⟩ a hs)
   | ok u' m =>
    obtain ⟨rfl, hm1, _⟩ := need_ok ok hk0 hk1 hn
    rw [hn] at e0; subst e0
    refine xcallO [0] (fun _ : Unit => .tu []) [] (fun _ => [(0, xBox b v (k + 1) d)]) rfl (eok rfl) (by omega) rfl Tryz.call168 rfl rfl (eok rfl) rfl (fun w M hS hF => shutQ (d2 := d) _ hn ⟨hS, (hF.get (k := 0) rfl).sl, hg, ok, hk0, hk1⟩ ⟨by omega, by omega⟩ (by omega)) (fun _ => rfl) (fun _ => rfl) fun _ _ => ?_
    exact xret hB rfl rfl (eok rfl) (by omega) rfl (eok rfl) fun w M' hX => ⟨h1', M', rfl, trivial, hX.le, hX.sel [0, 1] rfl, fnil⟩
theorem made1_c {w0 wv : World} {M0 M : Mem} {Rs : List HO} (t : Tm) (v : Value) (h : SlH) (x : Tf) (hS : St w0 M0 wv M Rs) (hv : Sl M 1 [h].length v ([h].flatMap valI)) (hx : Sl M 11 x.flat.length h.v (x.flat.flatMap Tm.cells)) (hb : len x.flat ≤ 100000000000) :
    Calls Tryz.prog 122 [.agg t.cells.toArray, v].toArray wv (FilR w0 M0 M Rs (Tf.mk t [x]).flat) :=
 made_c t v [h] [x.flat] hS ⟨hv, valI_len, hx, trivial⟩ (by simp only [List.flatten_cons, List.flatten_nil, len_app, len_nil]; omega) (by simp only [len_cons, len_nil]; omega)
theorem made2_c {w0 wv : World} {M0 M : Mem} {Rs : List HO} (t : Tm) (v : Value) (h h2 : SlH) (x y : Tf) (hS : St w0 M0 wv M Rs) (hv : Sl M 1 [h, h2].length v ([h, h2].flatMap valI)) (hx : Sl M 11 x.flat.length h.v (x.flat.flatMap Tm.cells)) (hy : Sl M 11 y.flat.length h2.v (y.flat.flatMap Tm.cells)) (hb : len x.flat + len y.flat ≤ 100000000000) :
    Calls Tryz.prog 122 [.agg t.cells.toArray, v].toArray wv (FilR w0 M0 M Rs (Tf.mk t [x, y]).flat) :=
 made_c t v [h, h2] [x.flat, y.flat] hS ⟨hv, valI_len, hx, hy, trivial⟩ (by simp only [List.flatten_cons, List.flatten_nil, len_app, len_nil]; omega) (by simp only [len_cons, len_nil]; omega)
theorem eitP {f : Nat} (H : ∀ g, g ≤ f → AllW g) : CtF 3 163 (eitA quoteP (f + 1)) (f + 1) anyP := by
 intro w0 wv M0 M Rs b v l i d r0 e0 h hd0 hd hf _
 obtain ⟨hS, hl, hg, ok, h0, h1⟩ := h
 have hfew := ok.few
 have hl0 := len_nonneg l
 rw [eitA] at e0
 refine xenter (Hr := Rs) ttok Tryz.func163 rfl Tryz.ntmps163 [(0, kn v 9 l Tk.cells)] [(0, xBox b v i d)] [.bx 0 b 0] rfl hS (fc 0 hl (fun _ => rfl) fnil) (fun B hB => ?_) rfl
 cases hr : botA quoteP f l d i with
 | er ec p =>
  rw [hr] at e0; subst e0
  exact xcallE [0] rfl (eok rfl) (by omega) rfl Tryz.call214 rfl (eok rfl) rfl (fun w M hS hF => (H f (Nat.le_refl _)).bot hr ⟨hS, (hF.get (k := 0) rfl).sl, hg, ok, h0, h1⟩ hd0 hd (by omega) trivial) fun a w M hs hS hle => post_panic _ (hB.p ⟨M, rfl, hS, hle⟩ a hs)
 | ok x j =>
  have g := (all_good ok quoteP f).bot d i x j h0 h1 hr
  have hlt := g.lt
  rw [hr] at e0
  simp only [PR.bind] at e0
  refine xcallO [0] (fun h : SlH => .sl 1 h.v) [] (fun h => [(0, xBox b v j d), (1, pvF h.v x.flat)]) rfl (eok rfl) (by omega) rfl Tryz.call214 rfl rfl (eok rfl) rfl (fun w M hS hF => (H f (Nat.le_refl _)).bot hr ⟨hS, (hF.get (k := 0) rfl).sl, hg, ok, h0, h1⟩ hd0 hd (by omega) trivial) (fun _ => rfl) (fun _ => rfl) fun h1' _ => ?_
  refine xloop (σ := Int × SlH × Tf × Nat) (fun (j, h, x, q) => ⟨[(0, kn v 9 l Tk.cells)], [(0, xBox b v j d), (1, pvF h.v x.flat)], [Z 0 (.bx 0 b 0), Z 3 (.sl 1 h.v)]⟩)
    (fun (j, h, x, q) => GoodR l i x j ∧ 8 * (len l - j) + 1 ≤ (q : Int) ∧ q ≤ f ∧ eisA quoteP q l d x j = r0) (fun (j, h, x, q) => (len l - j).toNat) (j, h1', x, f) rfl (eok rfl) (by omega) rfl ⟨g, by omega, Nat.le_refl _, e0⟩ ?_
  clear g hlt e0 hr x j h1'
  rintro ⟨j, h, x, q⟩ ⟨g, hq, hqf, hR⟩
  have hlt := g.lt
  have hj1 := g.le
  have hsz := g.size
  cases q with
  | zero => exfalso; omega
  | succ q =>
  rw [eisA] at hR
  refine xcallK [0] (.v (.bool (isWd l j sOr))) rfl (eok rfl) (by omega) Tryz.call215 rfl rfl (eok rfl) rfl (fun _ w M hS hF => isWordP_c sOr hS (hF.get (k := 0) rfl).sl (by omega) hj1) rfl ?_
  refine xbr rfl (eok rfl) (by omega) (fun hb1 => ?_) (fun hb1 => ?_)
  ·have hj2 : j + 1 < len l := ok.last j (by omega) hj1 fun e => by unfold isWd at hb1; rw [e] at hb1; simp at hb1
   rw [if_pos hb1] at hR
   cases hr2 : botA quoteP q l d (j + 1) with
   | er ec p =>
    rw [hr2] at hR; subst hR
    exact xcallE [0] rfl (eok rfl) (by simp only [zb] <;> omega) rfl Tryz.call214 rfl (eok rfl) rfl (fun w M hS hF => (H q (by omega)).bot hr2 ⟨hS, (hF.get (k := 0) rfl).sl, hg, ok, by omega, hj2⟩ hd0 hd (by omega) trivial) fun a w M hs hS hle => post_panic _ (hB.p ⟨M, rfl, hS.drop _ (List.sublist_cons_self _ _), hle⟩ a hs)
   | ok y m =>
    have g2 := (all_good ok quoteP q).bot d _ y m (by omega) hj2 hr2
    have hlt2 := g2.lt
    have hsz2 := g2.size
    have hm1 := g2.le
    have hxn := len_nonneg x.flat
    have hyn := len_nonneg y.flat
    rw [hr2] at hR
    simp only [PR.bind] at hR
    refine xcallO [0] (fun h : SlH => .sl 2 h.v) [] (fun h => [(0, xBox b v m d), (2, pvF h.v y.flat)]) rfl (eok rfl) (by simp only [zb] <;> omega) rfl Tryz.call214 rfl rfl (eok rfl) rfl (fun w M hS hF => (H q (by omega)).bot hr2 ⟨hS, (hF.get (k := 0) rfl).sl, hg, ok, by omega, hj2⟩ hd0 hd (by omega) trivial) (fun _ => rfl) (fun _ => rfl) fun h2 _ => ?_
    refine xtell 1 rfl (xtell 2 rfl ?_)
    refine xlit 4 [h, h2] valI 1 23 valI_len rfl (eok rfl) (by omega) rfl (eok rfl) (fun w => by kernel_rfl) rfl fun v4 => ?_
    refine xcallO [] (fun h : SlH => .sl 5 h.v) [] (fun u => [(5, pvF u.v (Tf.mk (tmF 18) [x, y]).flat)]) rfl (eok rfl) (by omega) rfl Tryz.call122 rfl rfl (eok rfl) rfl (fun w M hS hF => made2_c (tmF 18) v4 h h2 x y hS (hF.get (k := 4) rfl).sl (hF.get (k := 1) rfl).sl (hF.get (k := 2) rfl).sl (by omega)) (fun _ => rfl) (fun _ => rfl) fun h5 _ => ?_
    refine run_ok rfl (eok rfl) (by omega) (xview ⟨_, [(1, pvF h5.v (Tf.mk (tmF 18) [x, y]).flat), (4, .ho (ownHs v4 [h, h2])), (0, xBox b v m d)], (3, .t, .sl 1 h5.v) :: _⟩ rfl rfl rfl ?_)
    exact xround (m, h5, .mk (tmF 18) [x, y], q) rfl (eok rfl) (by omega) rfl ⟨⟨by omega, g2.le, .no (by show (18 : Int) ≠ 4; decide), rfl, by rw [Tf.flat_mk_len, flatF_two]; omega⟩, by omega, by omega, hR⟩ (by show Int.toNat _ < Int.toNat _; omega)
  ·rw [if_neg (by rw [hb1]; decide)] at hR
   subst hR
   exact xret hB rfl rfl (eok rfl) (by omega) rfl (eok rfl) fun w M' hX => ⟨h, M', rfl, trivial, hX.le, hX.sel [0, 1] rfl, fnil⟩
theorem botP {f : Nat} (H : ∀ g, g ≤ f → AllW g) : CtF 2 214 (botA quoteP (f + 1)) (f + 1) anyP := by
 intro w0 wv M0 M Rs b v l i d r0 e0 h hd0 hd hf _
 obtain ⟨hS, hl, hg, ok, h0, h1⟩ := h
 have hfew := ok.few
 have hl0 := len_nonneg l
 rw [botA] at e0
 refine xenter (Hr := Rs) ttok Tryz.func214 rfl Tryz.ntmps214 [(0, kn v 9 l Tk.cells)] [(0, xBox b v i d)] [.bx 0 b 0] rfl hS (fc 0 hl (fun _ => rfl) fnil) (fun B hB => ?_) rfl
 cases hr : sinA quoteP f l d i with
 | er ec p =>
  rw [hr] at e0; subst e0
  exact xcallE [0] rfl (eok rfl) (by omega) rfl Tryz.call249 rfl (eok rfl) rfl (fun w M hS hF => (H f (Nat.le_refl _)).sin hr ⟨hS, (hF.get (k := 0) rfl).sl, hg, ok, h0, h1⟩ hd0 hd (by omega) trivial) fun a w M hs hS hle => post_panic _ (hB.p ⟨M, rfl, hS, hle⟩ a hs)
 | ok x j =>
  have g := (all_good ok quoteP f).sin d i x j h0 h1 hr
  have hlt := g.lt
  rw [hr] at e0
  simp only [PR.bind] at e0
  refine xcallO [0] (fun h : SlH => .sl 1 h.v) [] (fun h => [(0, xBox b v j d), (1, pvF h.v x.flat)]) rfl (eok rfl) (by omega) rfl Tryz.call249 rfl rfl (eok rfl) rfl (fun w M hS hF => (H f (Nat.le_refl _)).sin hr ⟨hS, (hF.get (k := 0) rfl).sl, hg, ok, h0, h1⟩ hd0 hd (by omega) trivial) (fun _ => rfl) (fun _ => rfl) fun h1' _ => ?_
  refine xloop (σ := Int × SlH × Tf × Nat) (fun (j, h, x, q) => ⟨[(0, kn v 9 l Tk.cells)], [(0, xBox b v j d), (1, pvF h.v x.flat)], [Z 0 (.bx 0 b 0), Z 3 (.sl 1 h.v)]⟩)
    (fun (j, h, x, q) => GoodR l i x j ∧ 8 * (len l - j) + 1 ≤ (q : Int) ∧ q ≤ f ∧ bosA quoteP q l d x j = r0) (fun (j, h, x, q) => (len l - j).toNat) (j, h1', x, f) rfl (eok rfl) (by omega) rfl ⟨g, by omega, Nat.le_refl _, e0⟩ ?_
  clear g hlt e0 hr x j h1'
  rintro ⟨j, h, x, q⟩ ⟨g, hq, hqf, hR⟩
  have hlt := g.lt
  have hj1 := g.le
  have hsz := g.size
  cases q with
  | zero => exfalso; omega
  | succ q =>
  rw [bosA] at hR
  refine xcallK [0] (.v (.bool (isWd l j sAnd))) rfl (eok rfl) (by omega) Tryz.call215 rfl rfl (eok rfl) rfl (fun _ w M hS hF => isWordP_c sAnd hS (hF.get (k := 0) rfl).sl (by omega) hj1) rfl ?_
  refine xbr rfl (eok rfl) (by omega) (fun hb1 => ?_) (fun hb1 => ?_)
  ·have hj2 : j + 1 < len l := ok.last j (by omega) hj1 fun e => by unfold isWd at hb1; rw [e] at hb1; simp at hb1
   rw [if_pos hb1] at hR
   cases hr2 : sinA quoteP q l d (j + 1) with
   | er ec p =>
    rw [hr2] at hR; subst hR
    exact xcallE [0] rfl (eok rfl) (by simp only [zb] <;> omega) rfl Tryz.call249 rfl (eok rfl) rfl (fun w M hS hF => (H q (by omega)).sin hr2 ⟨hS, (hF.get (k := 0) rfl).sl, hg, ok, by omega, hj2⟩ hd0 hd (by omega) trivial) fun a w M hs hS hle => post_panic _ (hB.p ⟨M, rfl, hS.drop _ (List.sublist_cons_self _ _), hle⟩ a hs)
   | ok y m =>
    have g2 := (all_good ok quoteP q).sin d _ y m (by omega) hj2 hr2
    have hlt2 := g2.lt
    have hsz2 := g2.size
    have hm1 := g2.le
    have hxn := len_nonneg x.flat
    have hyn := len_nonneg y.flat
    rw [hr2] at hR
    simp only [PR.bind] at hR
    refine xcallO [0] (fun h : SlH => .sl 2 h.v) [] (fun h => [(0, xBox b v m d), (2, pvF h.v y.flat)]) rfl (eok rfl) (by simp only [zb] <;> omega) rfl Tryz.call249 rfl rfl (eok rfl) rfl (fun w M hS hF => (H q (by omega)).sin hr2 ⟨hS, (hF.get (k := 0) rfl).sl, hg, ok, by omega, hj2⟩ hd0 hd (by omega) trivial) (fun _ => rfl) (fun _ => rfl) fun h2 _ => ?_
    refine xtell 1 rfl (xtell 2 rfl ?_)
    refine xlit 4 [h, h2] valI 1 23 valI_len rfl (eok rfl) (by omega) rfl (eok rfl) (fun w => by kernel_rfl) rfl fun v4 => ?_
    refine xcallO [] (fun h : SlH => .sl 5 h.v) [] (fun u => [(5, pvF u.v (Tf.mk (tmF 17) [x, y]).flat)]) rfl (eok rfl) (by omega) rfl Tryz.call122 rfl rfl (eok rfl) rfl (fun w M hS hF => made2_c (tmF 17) v4 h h2 x y hS (hF.get (k := 4) rfl).sl (hF.get (k := 1) rfl).sl (hF.get (k := 2) rfl).sl (by omega)) (fun _ => rfl) (fun _ => rfl) fun h5 _ => ?_
    refine run_ok rfl (eok rfl) (by omega) (xview ⟨_, [(1, pvF h5.v (Tf.mk (tmF 17) [x, y]).flat), (4, .ho (ownHs v4 [h, h2])), (0, xBox b v m d)], (3, .t, .sl 1 h5.v) :: _⟩ rfl rfl rfl ?_)
    exact xround (m, h5, .mk (tmF 17) [x, y], q) rfl (eok rfl) (by omega) rfl ⟨⟨by omega, g2.le, .no (by show (17 : Int) ≠ 4; decide), rfl, by rw [Tf.flat_mk_len, flatF_two]; omega⟩, by omega, by omega, hR⟩ (by show Int.toNat _ < Int.toNat _; omega)
  ·rw [if_neg (by rw [hb1]; decide)] at hR
   subst hR
   exact xret hB rfl rfl (eok rfl) (by omega) rfl (eok rfl) fun w M' hX => ⟨h, M', rfl, trivial, hX.le, hX.sel [0, 1] rfl, fnil⟩
theorem cmpQ {w0 wv : World} {M0 M : Mem} {Rs : List HO} {b : Nat} {v : Value} {l : List Tk} {i d : Int} {r : PR Tf} (e : cmpA quoteP l i = r) (h : PIn w0 wv M0 M Rs b v l i d) :
    Calls Tryz.prog 276 [.pointer (some ⟨b, 0, none⟩)].toArray wv (EndF w0 M0 M Rs b v d r) := by subst e; exact cmpP_c h
theorem sinP {f : Nat} (H : ∀ g, g ≤ f → AllW g) : CtF 1 249 (sinA quoteP (f + 1)) (f + 1) anyP := by
 intro w0 wv M0 M Rs b v l i d r0 e0 h hd0 hd hf _
 obtain ⟨hS, hl, hg, ok, h0, h1⟩ := h
 have hfew := ok.few
 have hl0 := len_nonneg l
 rw [sinA] at e0
 refine xenter (Hr := Rs) ttok Tryz.func249 rfl Tryz.ntmps249 [(0, kn v 9 l Tk.cells)] [(0, xBox b v i d)] [.bx 0 b 0] rfl hS (fc 0 hl (fun _ => rfl) fnil) (fun B hB => ?_) rfl
 refine xcallK [0] (.v (.bool (isM l i [40]))) rfl (eok rfl) (by omega) Tryz.call50 rfl rfl (eok rfl) rfl (fun _ w M hS hF => isP_c [40] hS (hF.get (k := 0) rfl).sl h0 h1) rfl ?_
 refine xbr rfl (eok rfl) (by omega) (fun hb1 => ?_) (fun hb1 => ?_)
 ·have hb : isM l i [40] = false := by simpa using hb1
  rw [if_pos hb] at e0
  cases hc : cmpA quoteP l i with
  | er ec p =>
   rw [hc] at e0; subst e0
   exact xcallE [0] rfl (eok rfl) (by omega) rfl Tryz.call276 rfl (eok rfl) rfl (fun w M hS hF => cmpQ hc ⟨hS, (hF.get (k := 0) rfl).sl, hg, ok, h0, h1⟩) fun a w M hs hS hle => post_panic _ (hB.p ⟨M, rfl, hS, hle⟩ a hs)
  | ok x j =>
   rw [hc] at e0; subst e0
   refine xcallO [0] (fun h : SlH => .sl 1 h.v) [] (fun h => [(0, xBox b v j d), (1, pvF h.v x.flat)]) rfl (eok rfl) (by omega) rfl Tryz.call276 rfl rfl (eok rfl) rfl (fun w M hS hF => cmpQ hc ⟨hS, (hF.get (k := 0) rfl).sl, hg, ok, h0, h1⟩) (fun _ => rfl) (fun _ => rfl) fun h1' _ => ?_
   exact xret hB rfl rfl (eok rfl) (by omega) rfl (eok rfl) fun w M' hX => ⟨h1', M', rfl, trivial, hX.le, hX.sel [0, 1] rfl, fnil⟩
 have hb : isM l i [40] = true := by simpa using hb1
 rw [if_neg (by rw [hb]; decide)] at e0
 cases ho : openA l d i [40] with
 | er ec p =>
  rw [ho] at e0; subst e0
  exact xcallE [0] rfl (eok rfl) (by omega) rfl Tryz.call164 rfl (eok rfl) rfl (fun w M hS hF => openQ _ ho ⟨hS, (hF.get (k := 0) rfl).sl, hg, ok, h0, h1⟩ ⟨hd0, hd⟩) fun a w M hs hS hle => post_panic _ (hB.p ⟨M, rfl, hS, hle⟩ a hs)
 | ok u j =>
  obtain ⟨rfl, hj1, hd64, _⟩ := open_ok ok h0 h1 ho
  rw [ho] at e0
  simp only [PR.bind] at e0
  refine xcallO [0] (fun _ : Unit => .tu []) [] (fun _ => [(0, xBox b v (i + 1) (d + 1))]) rfl (eok rfl) (by omega) rfl Tryz.call164 rfl rfl (eok rfl) rfl (fun w M hS hF => openQ _ ho ⟨hS, (hF.get (k := 0) rfl).sl, hg, ok, h0, h1⟩ ⟨hd0, hd⟩) (fun _ => rfl) (fun _ => rfl) fun _ _ => ?_
  cases hr : eitA quoteP f l (d + 1) (i + 1) with
  | er ec p =>
   rw [hr] at e0; subst e0
   exact xcallE [0] rfl (eok rfl) (by omega) rfl Tryz.call163 rfl (eok rfl) rfl (fun w M hS hF => (H f (Nat.le_refl _)).eit hr ⟨hS, (hF.get (k := 0) rfl).sl, hg, ok, by omega, hj1⟩ (by omega) (by omega) (by omega) trivial) fun a w M hs hS hle => post_panic _ (hB.p ⟨M, rfl, hS, hle⟩ a hs)
  | ok x k =>
   have g := (all_good ok quoteP f).eit (d + 1) _ x k (by omega) hj1 hr
   have hlt := g.lt
   have hle := g.le
   have hsz := g.size
   rw [hr] at e0
   simp only at e0
   refine xcallO [0] (fun h : SlH => .sl 1 h.v) [] (fun h => [(0, xBox b v k (d + 1)), (1, pvF h.v x.flat)]) rfl (eok rfl) (by omega) rfl Tryz.call163 rfl rfl (eok rfl) rfl (fun w M hS hF => (H f (Nat.le_refl _)).eit hr ⟨hS, (hF.get (k := 0) rfl).sl, hg, ok, by omega, hj1⟩ (by omega) (by omega) (by omega) trivial) (fun _ => rfl) (fun _ => rfl) fun h1' _ => ?_
   refine xcallK [0] (.v (.bool (isM l k [124]))) rfl (eok rfl) (by omega) Tryz.call50 rfl rfl (eok rfl) rfl (fun _ w M hS hF => isP_c [124] hS (hF.get (k := 0) rfl).sl (by omega) hle) rfl ?_
   refine xbrj 0 (fun s => ∃ (m : Int) (y : Tf) (h : SlH), 0 ≤ m ∧ m < len l ∧ ((needA l m [41]).bind fun _ n => .ok y n) = r0 ∧ s = ⟨[(0, kn v 9 l Tk.cells)], [(0, xBox b v m (d + 1)), (1, pvF h.v y.flat)], [Z 0 (.bx 0 b 0), Z 3 (.sl 1 h.v)]⟩) rfl (eok rfl) (by omega) rfl (fun hb2 => ?_) (fun hb2 => ?_) ?_
   ·have hk1 := isM_lt ok (by omega) hle hb2
    rw [if_pos hb2] at e0
    refine xcallK [0] (.v (.bool (isWd l (k + 1) sNot))) rfl (eok rfl) (by simp only [zb] <;> omega) Tryz.call215 rfl rfl (eok rfl) rfl (fun _ w M hS hF => isWordP_c sNot hS (hF.get (k := 0) rfl).sl (by omega) hk1) rfl ?_
    refine xbr rfl (eok rfl) (by omega) (fun hb3 => ?_) (fun hb3 => ?_)
    ·have hw : isWd l (k + 1) sNot = false := by simpa using hb3
     rw [if_neg (by rw [hw]; decide)] at e0
     subst e0
     exact xcallE [0] rfl (eok rfl) (by omega) rfl Tryz.call26 rfl (eok rfl) rfl (fun w M hS hF => failP_c 1 hS (hF.get (k := 0) rfl).sl (by omega) hk1) fun a w M hs hS hle => post_panic _ (hB.p ⟨M, rfl, hS.drop _ (List.sublist_cons_self _ _), hle⟩ a hs)
    ·have hw : isWd l (k + 1) sNot = true := by simpa using hb3
     have hk2 : k + 1 + 1 < len l := ok.last _ (by omega) hk1 fun e => by unfold isWd at hw; rw [e] at hw; simp at hw
     rw [if_pos hw] at e0
     refine xtell 1 rfl ?_
     refine xlit 4 [h1'] valI 1 23 valI_len rfl (eok rfl) (by simp only [zb] <;> omega) rfl (eok rfl) (fun w => by kernel_rfl) rfl fun v4 => ?_
     refine xcallO [] (fun h : SlH => .sl 5 h.v) [] (fun u => [(5, pvF u.v (Tf.mk (tmF 19) [x]).flat)]) rfl (eok rfl) (by omega) rfl Tryz.call122 rfl rfl (eok rfl) rfl (fun w M hS hF => made1_c (tmF 19) v4 h1' x hS (hF.get (k := 4) rfl).sl (hF.get (k := 1) rfl).sl (by omega)) (fun _ => rfl) (fun _ => rfl) fun h5 _ => ?_
     refine run_ok rfl (eok rfl) (by omega) (xview ⟨_, [(1, pvF h5.v (Tf.mk (tmF 19) [x]).flat), (4, .ho (ownHs v4 [h1'])), (0, xBox b v (k + 1 + 1) (d + 1))], (3, .t, .sl 1 h5.v) :: _⟩ rfl rfl rfl ?_)
     exact xmeet _ rfl (eok rfl) (by omega) rfl ⟨k + 1 + 1, .mk (tmF 19) [x], h5, by omega, hk2, by rw [show k + 1 + 1 = k + 2 by omega]; exact e0, rfl⟩
   ·rw [if_neg (by rw [hb2]; decide)] at e0
    exact xmeet _ rfl (eok rfl) (by omega) rfl ⟨k, x, h1', by omega, hle, e0, rfl⟩
   rintro s ⟨m, y, h, hm0, hm1, hR, rfl⟩
   cases hn : needA l m [41] with
   | er ec p =>
    rw [hn] at hR; subst hR
    exact xcallE [0] rfl (eok rfl) (by omega) rfl Tryz.call168 rfl (eok rfl) rfl (fun w M hS hF => shutQ (d2 := d) _ hn ⟨hS, (hF.get (k := 0) rfl).sl, hg, ok, hm0, hm1⟩ ⟨by omega, by omega⟩ (by omega)) fun a w M hs hS hle => post_panic _ (hB.p ⟨M, rfl, hS.drop _ (List.sublist_cons_self _ _), hle⟩ a hs)
   | ok u' n =>
    obtain ⟨rfl, hn1, _⟩ := need_ok ok hm0 hm1 hn
    rw [hn] at hR; subst hR
    refine xcallO [0] (fun _ : Unit => .tu []) [] (fun _ => [(0, xBox b v (m + 1) d)]) rfl (eok rfl) (by omega) rfl Tryz.call168 rfl rfl (eok rfl) rfl (fun w M hS hF => shutQ (d2 := d) _ hn ⟨hS, (hF.get (k := 0) rfl).sl, hg, ok, hm0, hm1⟩ ⟨by omega, by omega⟩ (by omega)) (fun _ => rfl) (fun _ => rfl) fun _ _ => ?_
    exact xret hB rfl rfl (eok rfl) (by omega) rfl (eok rfl) fun w M' hX => ⟨h, M', rfl, trivial, hX.le, hX.sel [0, 1] rfl, fnil⟩
end Go.Proofs.YtmjpjbmeamnfpaaGreatDoor
