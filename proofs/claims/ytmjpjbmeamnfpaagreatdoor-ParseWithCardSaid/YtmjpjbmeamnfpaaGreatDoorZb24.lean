/-
  The parser of filters: lists and objects.
-/
import Derived.Test.YtmjpjbmeamnfpaaGreatDoorZb23
set_option linter.unusedVariables false
set_option linter.unusedSimpArgs false
set_option maxRecDepth 100000
namespace Go.Eng
/-- Parts with commas between, up to a mark. -/
def manyT {σ : Type} (one : Nat → σ → Int → PR σ) (fst : σ → Bool) (l : List Tk) (e : Str) : Nat → σ → Int → PR σ
  | 0, _, i => failA l i 1
  | f + 1, g, i => if isM l i e then .ok g (i + 1) else (if fst g then .ok () i else needA l i [44]).bind fun _ j => (one f g j).bind fun g' k => manyT one fst l e f g' k
theorem bind_assoc {α β γ : Type} (r : PR α) (f : α → Int → PR β) (g : β → Int → PR γ) : (r.bind f).bind g = r.bind fun x j => (f x j).bind g := by cases r <;> rfl
theorem bind_congr {α β : Type} {r : PR α} {f g : α → Int → PR β} (h : ∀ x j, f x j = g x j) : r.bind f = r.bind g := by cases r with | er c p => rfl | ok x j => exact h x j
theorem manyT_inv {σ : Type} {one : Nat → σ → Int → PR σ} {fst : σ → Bool} {l : List Tk} (ok : LexOk l) {e : Str} {I : σ → Int → Prop} (hI : ∀ F g j g' k, 0 ≤ j → j < len l → I g j → one F g j = .ok g' k → j < k ∧ k < len l ∧ I g' k) (hIw : ∀ g j, I g j → I g (j + 1)) :
    ∀ (f : Nat) (g : σ) (i : Int) {g' : σ} {m : Int}, 0 ≤ i → i < len l → I g i → manyT one fst l e f g i = .ok g' m → ∃ j, 0 ≤ j ∧ j < len l ∧ I g' j
  | 0, g, i, g', m, _, _, _, h => (failA_no h).elim
  | f + 1, g, i, g', m, h0, h1, hi, h => by
    rw [manyT] at h
    split at h
    · cases h; exact ⟨i, h0, h1, hi⟩
    · obtain ⟨u, j, h2, h3⟩ := bind_ok h
      have hj : 0 ≤ j ∧ j < len l ∧ I g j := by
        split at h2
        · cases h2; exact ⟨h0, h1, hi⟩
        · obtain ⟨rfl, h4, _⟩ := need_ok ok h0 h1 h2; exact ⟨by omega, h4, hIw _ _ hi⟩
      obtain ⟨g2, k, h5, h6⟩ := bind_ok h3
      obtain ⟨h7, h8, h9⟩ := hI f g j g2 k hj.1 hj.2.1 hj.2.2 h5
      exact manyT_inv ok hI hIw f g2 k (by omega) h8 h9 h6
def oneL (q : Str → Str) (l : List Tk) (d : Int) (f : Nat) (xs : List Tf) (j : Int) : PR (List Tf) := (posA q f l d j).bind fun x m => .ok (xs ++ [x]) m
theorem lisA_many (q : Str → Str) (l : List Tk) (d : Int) : ∀ (f : Nat) (xs : List Tf) (i : Int), lisA q f l d xs i = (manyT (oneL q l d) List.isEmpty l [93] f xs i).bind fun xs m => .ok (.mk (tmF 9) xs) m
  | 0, xs, i => rfl
  | f + 1, xs, i => by
    rw [lisA, manyT]
    by_cases h : isM l i [93] = true
    · rw [if_pos h, if_pos h]; rfl
    · rw [if_neg h, if_neg h, bind_assoc]
      refine bind_congr fun _ j => ?_
      unfold oneL
      rw [bind_assoc, bind_assoc]
      exact bind_congr fun x m => lisA_many q l d f (xs ++ [x]) m
def oneO (q : Str → Str) (l : List Tk) (d : Int) (f : Nat) (xs : List Tf) (j : Int) : PR (List Tf) :=
  if (at' l j).kind ≠ 2 ∧ (at' l j).kind ≠ 4 ∨ (at' l j).s ∈ xs.map (fun x => x.t.name) then failA l j 1
  else (needA l (j + 1) [58]).bind fun _ k => (posA q f l d k).bind fun x m => .ok (xs ++ [x.named (at' l j).s]) m
theorem obsA_many (q : Str → Str) (l : List Tk) (d : Int) : ∀ (f : Nat) (xs : List Tf) (i : Int), obsA q f l d xs i = (manyT (oneO q l d) List.isEmpty l [125] f xs i).bind fun xs m => .ok (.mk (tmF 8) xs) m
  | 0, xs, i => rfl
  | f + 1, xs, i => by
    rw [obsA, manyT]
    by_cases h : isM l i [125] = true
    · rw [if_pos h, if_pos h]; rfl
    · rw [if_neg h, if_neg h, bind_assoc]
      refine bind_congr fun _ j => ?_
      unfold oneO
      by_cases h2 : (at' l j).kind ≠ 2 ∧ (at' l j).kind ≠ 4 ∨ (at' l j).s ∈ xs.map (fun x => x.t.name)
      · rw [if_pos h2, if_pos h2]; rfl
      · rw [if_neg h2, if_neg h2, bind_assoc, bind_assoc]
        refine bind_congr fun _ k => ?_
        rw [bind_assoc]
        exact bind_congr fun x m => obsA_many q l d f _ m
end Go.Eng
namespace Go.Proofs.YtmjpjbmeamnfpaaGreatDoor
open Go.Eng

theorem many_c {σ γ : Type} (one : Nat → σ → Int → PR σ) (fst : σ → Bool) (x1 x2 x3 x4 x5 : σ → γ → HO) (Fc : σ → γ → List (Nat × Kn)) (I : σ → Int → Prop) {w0 wv : World} {M0 M : Mem} {Rs : List HO} {b : Nat} {v : Value} {l : List Tk} {i d d2 : Int} {fn : FuncId} {a bb : List Value} (e : Str) {r0 : PR σ} (f : Nat) (g0 : σ) (γ0 : γ)
    (e0 : manyT one fst l e f g0 i = r0) (h : PIn w0 wv M0 M (x1 g0 γ0 :: x2 g0 γ0 :: x3 g0 γ0 :: x4 g0 γ0 :: x5 g0 γ0 :: Rs) b v l i d) (hd : 0 ≤ d ∧ d ≤ 65) (hd2 : d - 1 = d2) (ct : CT Tryz.prog fn) (hF0 : FOk M (Fc g0 γ0)) (hI0 : I g0 i) (hg0 : fst g0 = true) (hf : 8 * (len l - i) + 4 ≤ (f : Int))
    (hI : ∀ F g j g' k, 0 ≤ j → j < len l → I g j → one F g j = .ok g' k → j < k ∧ k < len l ∧ I g' k ∧ fst g' = false) (hIw : ∀ g j, I g j → I g (j + 1))
    (hone : ∀ F g γ' j w M' r, F < f → 0 ≤ j → j < len l → 8 * (len l - j) + 3 ≤ (F : Int) → I g j → St w0 M0 w M' (pBox b v j d :: x1 g γ' :: x2 g γ' :: x3 g γ' :: x4 g γ' :: x5 g γ' :: Rs) → Sl M' 9 l.length v (l.flatMap Tk.cells) → FOk M' (Fc g γ') → one F g j = r →
      Calls Tryz.prog fn (a ++ [] ++ bb).toArray w (QRet w0 M0 M' Rs 56 r fun g' k => ORet w0 M0 M' Rs (fun _ : γ => .tuple #[]) (fun _ => True) (fun γ' => Fc g' γ') fun γ' => [pBox b v k d, x1 g' γ', x2 g' γ', x3 g' γ', x4 g' γ', x5 g' γ'])) :
    Calls Tryz.prog 165 [.pointer (some ⟨b, 0, none⟩), str e, .func (.func fn) ⟨a⟩ ⟨bb⟩].toArray wv (QRet w0 M0 M Rs 56 r0 fun g m => ORet w0 M0 M Rs (fun _ : γ => .tuple #[]) (fun _ => True) (fun γ' => Fc g γ') fun γ' => [pBox b v m d2, x1 g γ', x2 g γ', x3 g γ', x4 g γ', x5 g γ']) := by
 obtain ⟨hS, hl, hg, ok, h0, h1⟩ := h
 have hfew := ok.few
 have hl0 := len_nonneg l
 refine xenter (Hr := Rs) ttok Tryz.func165 rfl Tryz.ntmps165 [(0, kn v 9 l Tk.cells), (9, knF (Fc g0 γ0))] [(0, xBox b v i d), (1, .ho (x1 g0 γ0)), (2, .ho (x2 g0 γ0)), (3, .ho (x3 g0 γ0)), (4, .ho (x4 g0 γ0)), (5, .ho (x5 g0 γ0))] [.bx 0 b 0, .v (str e), .v (.func (.func fn) ⟨a⟩ ⟨bb⟩)] rfl hS (fc 0 hl (fun _ => rfl) (fcons ⟨Sl.nil M 1, strC_len, hF0⟩ fnil)) (fun B hB => ?_) rfl
 refine xloop (σ := Int × σ × γ × Bool × Nat) (fun (j, g, y, fi, q) => ⟨[(0, kn v 9 l Tk.cells), (9, knF (Fc g y))], [(0, xBox b v j d), (1, .ho (x1 g y)), (2, .ho (x2 g y)), (3, .ho (x3 g y)), (4, .ho (x4 g y)), (5, .ho (x5 g y))], [Z 0 (.bx 0 b 0), Z 1 (.v (str e)), Z 2 (.v (.func (.func fn) ⟨a⟩ ⟨bb⟩)), Z 6 (.v (.bool fi))]⟩)
   (fun (j, g, y, fi, q) => 0 ≤ j ∧ j < len l ∧ I g j ∧ fst g = fi ∧ 8 * (len l - j) + 4 ≤ (q : Int) ∧ q ≤ f ∧ manyT one fst l e q g j = r0) (fun (j, g, y, fi, q) => (len l - j).toNat) (i, g0, γ0, true, f) rfl (eok rfl) (by omega) rfl ⟨h0, h1, hI0, hg0, hf, Nat.le_refl _, e0⟩ ?_
 rintro ⟨j, g, y, fi, q⟩ ⟨hj0, hj1, hIg, hfi, hq, hqf, hR⟩
 cases q with
 | zero => exfalso; omega
 | succ q =>
 rw [manyT] at hR
 refine xcallK [0] (.v (.bool (isM l j e))) rfl (eok rfl) (by omega) Tryz.call50 rfl rfl (eok rfl) rfl (fun _ w M hS hF => isP_c e hS (hF.get (k := 0) rfl).sl hj0 hj1) rfl ?_
 refine xbr rfl (eok rfl) (by omega) (fun hb1 => ?_) (fun hb1 => ?_)
 ·have hb : isM l j e = false := by simpa using hb1
  rw [if_neg (by rw [hb]; decide)] at hR
  refine xbrj 0 (fun s => ∃ j', j ≤ j' ∧ j' < len l ∧ I g j' ∧ 8 * (len l - j') + 3 ≤ (q : Int) ∧ ((one q g j').bind fun g' k => manyT one fst l e q g' k) = r0 ∧ s = ⟨[(0, kn v 9 l Tk.cells), (9, knF (Fc g y))], [(0, xBox b v j' d), (1, .ho (x1 g y)), (2, .ho (x2 g y)), (3, .ho (x3 g y)), (4, .ho (x4 g y)), (5, .ho (x5 g y))], [Z 0 (.bx 0 b 0), Z 1 (.v (str e)), Z 2 (.v (.func (.func fn) ⟨a⟩ ⟨bb⟩)), Z 6 (.v (.bool fi))]⟩) rfl (eok rfl) (by omega) rfl (fun hb2 => ?_) (fun hb2 => ?_) ?_
  ·have hf2 : fi = false := by simpa using hb2
   rw [hfi, hf2] at hR
   cases hn : needA l j [44] with
   | er ec p =>
    rw [hn] at hR; subst hR
    exact xcallE [0] rfl (eok rfl) (by omega) rfl Tryz.call128 rfl (eok rfl) rfl (fun w M hS hF => needQ _ hn hS (hF.get (k := 0) rfl).sl hj0 hj1 (by omega)) fun a w M hs hS hle => post_panic _ (hB.p ⟨M, rfl, hS.drop _ (List.sublist_append_right [_, _, _, _, _] Rs), hle⟩ a hs)
   | ok u j' =>
    obtain ⟨rfl, hj2, _⟩ := need_ok ok hj0 hj1 hn
    rw [hn] at hR
    refine xcallO [0] (fun _ : Unit => .tu []) [] (fun _ => [(0, xBox b v (j + 1) d)]) rfl (eok rfl) (by omega) rfl Tryz.call128 rfl rfl (eok rfl) rfl (fun w M hS hF => needQ _ hn hS (hF.get (k := 0) rfl).sl hj0 hj1 (by omega)) (fun _ => rfl) (fun _ => rfl) fun _ _ => ?_
    exact xmeet _ rfl (eok rfl) (by omega) rfl ⟨j + 1, by omega, hj2, hIw _ _ hIg, by omega, hR, rfl⟩
  ·have hf2 : fi = true := by simpa using hb2
   rw [hfi, hf2] at hR
   exact xmeet _ rfl (eok rfl) (by omega) rfl ⟨j, by omega, hj1, hIg, by omega, hR, rfl⟩
  rintro s ⟨j', hjj, hj2, hI2, hq2, hR2, rfl⟩
  cases ho : one q g j' with
  | er ec p =>
   rw [ho] at hR2; subst hR2
   exact xcallE [0, 1, 2, 3, 4, 5] rfl (eok rfl) (by omega) rfl ct rfl (eok rfl) rfl (fun w M hS hF => hone q g y j' w M _ (by omega) (by omega) hj2 hq2 hI2 hS (hF.get (k := 0) rfl).sl (hF.get (k := 9) rfl).more ho) fun a w M hs hS hle => post_panic _ (hB.p ⟨M, rfl, hS, hle⟩ a hs)
  | ok g' k =>
   obtain ⟨hk0, hk1, hI3, hf3⟩ := hI q g j' g' k (by omega) hj2 hI2 ho
   rw [ho] at hR2
   simp only [PR.bind] at hR2
   refine xcallO [0, 1, 2, 3, 4, 5] (fun _ : γ => .tu []) [9] (fun y' => [(0, xBox b v k d), (1, .ho (x1 g' y')), (2, .ho (x2 g' y')), (3, .ho (x3 g' y')), (4, .ho (x4 g' y')), (5, .ho (x5 g' y'))]) (Fg := fun y' => [(9, knF (Fc g' y'))]) rfl (eok rfl) (by omega) rfl ct rfl rfl (eok rfl) rfl (fun w M hS hF => (hone q g y j' w M _ (by omega) (by omega) hj2 hq2 hI2 hS (hF.get (k := 0) rfl).sl (hF.get (k := 9) rfl).more ho).mono fun e w h => orange_f h) (fun _ => rfl) (fun _ => rfl) fun y' _ => ?_
   exact xround (k, g', y', false, q) rfl (eok rfl) (by omega) rfl ⟨by omega, hk1, hI3, hf3, by omega, by omega, hR2⟩ (by show Int.toNat _ < Int.toNat _; omega)
 ·have hb : isM l j e = true := by simpa using hb1
  have hj2 := isM_lt ok hj0 hj1 hb
  rw [if_pos hb] at hR
  subst hR
  have hn : needA l j e = .ok () (j + 1) := by unfold needA; rw [if_pos hb]
  refine xcallO [0] (fun _ : Unit => .tu []) [] (fun _ => [(0, xBox b v (j + 1) d2)]) rfl (eok rfl) (by omega) rfl Tryz.call168 rfl rfl (eok rfl) rfl (fun w M hS hF => shutQ (d2 := d2) _ hn ⟨hS, (hF.get (k := 0) rfl).sl, hg, ok, hj0, hj1⟩ hd hd2) (fun _ => rfl) (fun _ => rfl) fun _ _ => ?_
  exact xend hB rfl rfl (eok rfl) (by omega) fun w M' hX => ⟨y, M', rfl, trivial, hX.le, hX.st, (hX.f.get (k := 9) rfl).more⟩
abbrev nilH : HO := .own 51 11 (.slice none 0 0) 0 []
/-- What is captured. -/
abbrev lFc (g : List Tf) (y : Value × List SlH) : List (Nat × Kn) := [(6, kn y.1 1 y.2 valI), (8, knR y.2 (g.map Tf.flat))]
def smallP (g : List Tf) (j : Int) : Prop := len (flatF g) ≤ 4 * j ∧ len g ≤ j
theorem smallP.few {g : List Tf} {j : Int} (h : smallP g j) (hj : j ≤ 1048576) : len (flatF g) ≤ 4194304 ∧ len g ≤ 1048576 := by unfold smallP at h; omega
theorem list1_c {f : Nat} (H : AllW f) {w0 wv : World} {M0 M : Mem} {Rs : List HO} {b b1 b3 : Nat} {v : Value} {l : List Tk} {j d : Int} {g : List Tf} {y : Value × List SlH} {r : PR (List Tf)} (hd : 0 ≤ d ∧ d ≤ 64) (hg : Gl w0) (ok : LexOk l) (hj0 : 0 ≤ j) (hj1 : j < len l) (hf : 8 * (len l - j) + 3 ≤ (f : Int)) (hI : smallP g j)
    (hS : St w0 M0 wv M (pBox b v j d :: .box b3 [y.1] 72 :: .box b1 [.pointer (some ⟨b, 0, none⟩)] 58 :: ownHs y.1 y.2 :: nilH :: nilH :: Rs)) (hl : Sl M 9 l.length v (l.flatMap Tk.cells)) (hF : FOk M (lFc g y)) (e0 : oneL quoteP l d f g j = r) :
    Calls Tryz.prog 167 [.pointer (some ⟨b3, 0, none⟩), .pointer (some ⟨b1, 0, none⟩)].toArray wv (QRet w0 M0 M Rs 56 r fun g' k => ORet w0 M0 M Rs (fun _ : Value × List SlH => .tuple #[]) (fun _ => True) (fun y' => lFc g' y') fun y' => [pBox b v k d, .box b3 [y'.1] 72, .box b1 [.pointer (some ⟨b, 0, none⟩)] 58, ownHs y'.1 y'.2, nilH, nilH]) := by
 obtain ⟨vl, hs⟩ := y
 have hfew := ok.few
 have hlen : hs.length = g.length := by have := RowsV.len (f := Tm.cells) (hF.get (k := 8) rfl).more; rw [List.length_map] at this; exact this
 have hgl := (hI.few (by omega)).2
 unfold oneL at e0
 refine xenter (Hr := Rs) ttok Tryz.func167 rfl Tryz.ntmps167 [(0, kn v 9 l Tk.cells), (6, kn vl 1 hs valI), (8, knR hs (g.map Tf.flat))] [(0, xBox b v j d), (1, .box b3 [.sl 6 vl] 72), (2, .box b1 [.bx 0 b 0] 58), (6, .ho (ownHs vl hs)), (4, .ho nilH), (5, .ho nilH)] [.bx 1 b3 0, .bx 2 b1 0] rfl hS (fc 0 hl (fun _ => rfl) hF) (fun B hB => ?_) rfl
 refine xdrawO [2, 3, 4, 5] 5 (fun _ _ _ _ _ h => h) rfl (eok rfl) (by omega) mixedK (by decide +kernel) ?_
 refine dg1 2 rfl (eok rfl) (by omega) rfl rfl ?_
 cases hr : posA quoteP f l d j with
 | er ec p =>
  rw [hr] at e0; subst e0
  exact xcallE [0] rfl (eok rfl) (by omega) rfl Tryz.call49 rfl (eok rfl) rfl (fun w M hS hF => H.pos hr ⟨hS, (hF.get (k := 0) rfl).sl, hg, ok, hj0, hj1⟩ hd.1 hd.2 hf trivial) fun a w M hs hS hle => post_panic _ (hB.p ⟨M, rfl, hS.drop _ (List.sublist_append_right [_, _, _, _, _] Rs), hle⟩ a hs)
 | ok x k =>
  have gx := (all_good ok quoteP f).pos d j x k hj0 hj1 hr
  have hlt := gx.lt
  rw [hr] at e0
  simp only [PR.bind] at e0
  subst e0
  refine xcallO [0] (fun h : SlH => .sl 7 h.v) [] (fun h => [(0, xBox b v k d), (7, pvF h.v x.flat)]) rfl (eok rfl) (by omega) rfl Tryz.call49 rfl rfl (eok rfl) rfl (fun w M hS hF => H.pos hr ⟨hS, (hF.get (k := 0) rfl).sl, hg, ok, hj0, hj1⟩ hd.1 hd.2 hf trivial) (fun _ => rfl) (fun _ => rfl) fun h7 _ => ?_
  refine xtell 7 rfl ?_
  refine xstep rfl (eok rfl) (by omega) ?_
  refine dg1 3 rfl (eok rfl) (by omega) rfl rfl ?_
  refine xlit 9 [h7] valI 1 23 valI_len rfl (eok rfl) (by omega) rfl (eok rfl) (fun w => by kernel_rfl) rfl fun v9 => ?_
  refine xstep rfl (eok rfl) (by omega) ?_
  refine dg1 4 rfl (eok rfl) (by omega) rfl rfl ?_
  refine xapp 24 rfl (eok rfl) (by omega) rfl (eok rfl) rfl Tryz.underlying72 Tryz.type23 rfl rfl valI_one (by simp only [len_cons, len_nil]; unfold len at *; omega) fun v' => ?_
  refine xknow 8 (knR (hs ++ [h7]) ((g ++ [x]).map Tf.flat)) (fun w M hX => ⟨Sl.nil M 1, strC_len, by rw [List.map_append]; exact RowsV.snoc (hX.sl 7 rfl) (hX.f.get (k := 8) rfl).more⟩) ?_
  refine xstep rfl (eok rfl) (by omega) ?_
  refine dg1 5 rfl (eok rfl) (by omega) rfl rfl ?_
  refine xstep rfl (eok rfl) (by omega) ?_
  refine dg0 rfl (eok rfl) (by omega) rfl rfl ?_
  exact xend hB rfl rfl (eok rfl) (by omega) fun w M' hX => ⟨(v', hs ++ [h7]), M', rfl, trivial, hX.le, hX.sel [0, 1, 2, 6, 4, 5] rfl, fcons (hX.f.get (k := 6) rfl) (fcons (hX.f.get (k := 8) rfl) fnil)⟩
theorem madeN_c {w0 wv : World} {M0 M : Mem} {Rs : List HO} (t : Tm) (v : Value) (hs : List SlH) (xs : List Tf) (hS : St w0 M0 wv M Rs) (hv : Sl M 1 hs.length v (hs.flatMap valI)) (hr : RowsV M 11 Tm.cells hs (xs.map Tf.flat)) (hb : len (flatF xs) ≤ 100000000000) (hn : len xs ≤ 1048576) :
    Calls Tryz.prog 122 [.agg t.cells.toArray, v].toArray wv (FilR w0 M0 M Rs (Tf.mk t xs).flat) := by
 have hl := RowsV.len hr
 rw [List.length_map] at hl
 rw [Tf.flat_mk, show len xs = len (xs.map Tf.flat) by unfold len; rw [List.length_map]]
 exact made_c t v hs (xs.map Tf.flat) hS ⟨hv, valI_len, hr⟩ (by rw [← flatF_map]; omega) (by unfold len at *; omega)
theorem oneL_ok {l : List Tk} (ok : LexOk l) {d : Int} {F : Nat} {g g' : List Tf} {j k : Int} (hj0 : 0 ≤ j) (hj1 : j < len l) (hI : smallP g j) (h : oneL quoteP l d F g j = .ok g' k) : j < k ∧ k < len l ∧ smallP g' k ∧ g'.isEmpty = false := by
 unfold oneL at h
 obtain ⟨x, m, h2, h3⟩ := bind_ok h
 cases h3
 have gx := (all_good ok quoteP F).pos d j x _ hj0 hj1 h2
 have := gx.lt
 refine ⟨gx.lt, gx.le, ⟨by rw [flatF_snoc]; have := gx.size; have := hI.1; omega, by rw [len_app]; have := hI.2; show len g + 1 ≤ _; omega⟩, by simp⟩
theorem smallP.up {g : List Tf} {j : Int} (h : smallP g j) : smallP g (j + 1) := by unfold smallP at *; omega
def lisT (f : Nat) (l : List Tk) (d i : Int) : PR Tf := (openA l d i [91]).bind fun _ j => lisA quoteP f l (d + 1) [] j
theorem lisP {f : Nat} (H : ∀ g, g ≤ f → AllW g) : CtF 1 125 (lisT f) f anyP := by
 intro w0 wv M0 M Rs b v l i d r0 e0 h hd0 hd hf _
 obtain ⟨hS, hl, hg, ok, h0, h1⟩ := h
 have hfew := ok.few
 have hl0 := len_nonneg l
 unfold lisT at e0
 refine xenter (Hr := Rs) ttok Tryz.func125 rfl Tryz.ntmps125 [(0, kn v 9 l Tk.cells)] [(0, xBox b v i d)] [.bx 0 b 0] rfl hS (fc 0 hl (fun _ => rfl) fnil) (fun B hB => ?_) rfl
 refine xbox 1 rfl (eok rfl) (by omega) rfl rfl (eok rfl) fun b1 => ?_
 cases ho : openA l d i [91] with
 | er ec p =>
  rw [ho] at e0; subst e0
  exact xcallE [0] rfl (eok rfl) (by omega) rfl Tryz.call164 rfl (eok rfl) rfl (fun w M hS hF => openQ _ ho ⟨hS, (hF.get (k := 0) rfl).sl, hg, ok, h0, h1⟩ ⟨hd0, hd⟩) fun a w M hs hS hle => post_panic _ (hB.p ⟨M, rfl, hS.drop _ (List.sublist_cons_self _ _), hle⟩ a hs)
 | ok u j =>
  obtain ⟨rfl, hj1, hd64, _⟩ := open_ok ok h0 h1 ho
  rw [ho] at e0
  simp only [PR.bind] at e0
  rw [lisA_many] at e0
  refine xcallO [0] (fun _ : Unit => .tu []) [] (fun _ => [(0, xBox b v (i + 1) (d + 1))]) rfl (eok rfl) (by omega) rfl Tryz.call164 rfl rfl (eok rfl) rfl (fun w M hS hF => openQ _ ho ⟨hS, (hF.get (k := 0) rfl).sl, hg, ok, h0, h1⟩ ⟨hd0, hd⟩) (fun _ => rfl) (fun _ => rfl) fun _ _ => ?_
  refine xalloc 2 rfl (eok rfl) (by omega) Tryz.zeroValue72 rfl fun b3 => ?_
  refine xpv (.v (.func (.func 167) #[] #[.pointer (some ⟨b3, 0, none⟩), .pointer (some ⟨b1, 0, none⟩)])) rfl (eok rfl) (by omega) rfl (fun w M hX => PV.makeFunc (xs := []) (ys := [.tmp 3, .tmp 1]) (vs := []) (us := [.pointer (some ⟨b3, 0, none⟩), .pointer (some ⟨b1, 0, none⟩)]) trivial ⟨opd_d (v := .bx 2 b3 0) (E := []) rfl (eok rfl), opd_d (v := .bx 1 b1 0) (E := []) rfl (eok rfl), trivial⟩) ?_
  refine xnil0 6 23 1 valI valI_len (xnil0 4 51 11 Tm.cells Tm.cells_len (xnil0 5 51 11 Tm.cells Tm.cells_len ?_))
  have hsm : smallP [] (i + 1) := ⟨by show (0 : Int) ≤ _; omega, by show (0 : Int) ≤ _; omega⟩
  have key : ∀ w M, St w0 M0 w M (pBox b v (i + 1) (d + 1) :: .box b3 [.slice none 0 0] 72 :: .box b1 [.pointer (some ⟨b, 0, none⟩)] 58 :: ownHs (.slice none 0 0) [] :: nilH :: nilH :: Rs) → Sl M 9 l.length v (l.flatMap Tk.cells) → ∀ r, manyT (oneL quoteP l (d + 1)) List.isEmpty l [93] f [] (i + 1) = r →
     Calls Tryz.prog 165 [.pointer (some ⟨b, 0, none⟩), str [93], .func (.func 167) #[] #[.pointer (some ⟨b3, 0, none⟩), .pointer (some ⟨b1, 0, none⟩)]].toArray w (QRet w0 M0 M Rs 56 r fun g m => ORet w0 M0 M Rs (fun _ : Value × List SlH => .tuple #[]) (fun _ => True) (fun y => lFc g y) fun y => [pBox b v m d, .box b3 [y.1] 72, .box b1 [.pointer (some ⟨b, 0, none⟩)] 58, ownHs y.1 y.2, nilH, nilH]) := fun w M hS hl r er => by
   refine many_c (oneL quoteP l (d + 1)) List.isEmpty (fun _ y => .box b3 [y.1] 72) (fun _ _ => .box b1 [.pointer (some ⟨b, 0, none⟩)] 58) (fun _ y => ownHs y.1 y.2) (fun _ _ => nilH) (fun _ _ => nilH) lFc smallP (d := d + 1) (d2 := d) (a := []) (bb := [.pointer (some ⟨b3, 0, none⟩), .pointer (some ⟨b1, 0, none⟩)]) [93] f [] (.slice none 0 0, []) er ⟨hS, hl, hg, ok, by omega, hj1⟩ ⟨by omega, by omega⟩ (by omega) Tryz.call167 (fcons ⟨Sl.nil M 1, valI_len, trivial⟩ (fcons ⟨Sl.nil M 1, strC_len, trivial⟩ fnil)) hsm rfl (by omega) (fun F g j g' k q0 q1 q2 q3 => oneL_ok ok q0 q1 q2 q3) (fun g j => smallP.up) fun F g y j w M' r q0 q1 q2 q3 q4 q5 q6 q7 q8 => list1_c (H F (by omega)) ⟨by omega, by omega⟩ hg ok q1 q2 q3 q4 q5 q6 q7 q8
  cases hm : manyT (oneL quoteP l (d + 1)) List.isEmpty l [93] f [] (i + 1) with
  | er ec p =>
   rw [hm] at e0; subst e0
   exact xcallE [0, 2, 1, 6, 4, 5] rfl (eok rfl) (by omega) rfl Tryz.call165 rfl (eok rfl) rfl (fun w M hS hF => key w M hS (hF.get (k := 0) rfl).sl _ hm) fun a w M hs hS hle => post_panic _ (hB.p ⟨M, rfl, hS, hle⟩ a hs)
  | ok g m =>
   rw [hm] at e0; simp only [PR.bind] at e0; subst e0
   refine xcallO [0, 2, 1, 6, 4, 5] (fun _ : Value × List SlH => .tu []) [6, 8] (fun y => [(0, xBox b v m d), (2, .box b3 [.sl 6 y.1] 72), (1, .box b1 [.bx 0 b 0] 58), (6, .ho (ownHs y.1 y.2)), (4, .ho nilH), (5, .ho nilH)]) rfl (eok rfl) (by omega) rfl Tryz.call165 rfl rfl (eok rfl) rfl (fun w M hS hF => key w M hS (hF.get (k := 0) rfl).sl _ hm) (fun _ => rfl) (fun _ => rfl) fun y _ => ?_
   obtain ⟨q, q0, q1, q2⟩ := manyT_inv ok (fun F g j g' k q0 q1 q2 q3 => let ⟨a1, a2, a3, _⟩ := oneL_ok ok q0 q1 q2 q3; ⟨a1, a2, a3⟩) (fun g j => smallP.up) f [] (i + 1) (by omega) hj1 hsm hm
   obtain ⟨q3, q4⟩ := q2.few (by omega)
   refine xcallO [] (fun h : SlH => .sl 7 h.v) [] (fun u => [(7, pvF u.v (Tf.mk (tmF 9) g).flat)]) rfl (eok rfl) (by omega) rfl Tryz.call122 rfl rfl (eok rfl) rfl (fun w M hS hF => madeN_c (tmF 9) y.1 y.2 g hS (hF.get (k := 6) rfl).sl (hF.get (k := 8) rfl).more (by omega) (by omega)) (fun _ => rfl) (fun _ => rfl) fun h7 _ => ?_
   exact xret hB rfl rfl (eok rfl) (by omega) rfl (eok rfl) fun w M' hX => ⟨h7, M', rfl, trivial, hX.le, hX.sel [0, 7] rfl, fnil⟩
/-- The names that were had. -/
def HadOk (sm : List SV) (ns : List Str) : Prop := ∀ x, sget sm x = if x ∈ ns then some (.bool true) else none
theorem HadOk.put {sm : List SV} {ns : List Str} (h : HadOk sm ns) (c : Nat) (n : Str) : HadOk (sset sm c n (.bool true)) (ns ++ [n]) := fun x => by
 rw [sget_set, h x]
 by_cases hx : x = n
 · subst hx; simp
 · simp [hx]
abbrev knP (p : Prop) : Kn := ⟨.slice none 0 0, 1, ([] : List Str), strC, fun _ => p, fun _ _ _ h => h⟩
/-- What is captured: the row of headers, the map. -/
structure OG where
  vl : Value
  hs : List SlH
  sm : List SV
  cl : Nat
abbrev oFc (g : List Tf) (y : OG) : List (Nat × Kn) := [(6, kn y.vl 1 y.hs valI), (8, knR y.hs (g.map Tf.flat)), (10, knP (HadOk y.sm (g.map fun x => x.t.name)))]
theorem object1_c {f : Nat} (H : AllW f) {w0 wv : World} {M0 M : Mem} {Rs : List HO} {b b1 b3 b4 mb : Nat} {v : Value} {l : List Tk} {j d : Int} {g : List Tf} {y : OG} {r : PR (List Tf)} (hd : 0 ≤ d ∧ d ≤ 64) (hg : Gl w0) (ok : LexOk l) (hj0 : 0 ≤ j) (hj1 : j < len l) (hf : 8 * (len l - j) + 3 ≤ (f : Int)) (hI : smallP g j)
    (hS : St w0 M0 wv M (pBox b v j d :: .box b3 [y.vl] 72 :: .box b1 [.pointer (some ⟨b, 0, none⟩)] 58 :: ownHs y.vl y.hs :: .box b4 [.map (some mb)] 208 :: .raw mb (smobj y.sm y.cl) :: Rs)) (hl : Sl M 9 l.length v (l.flatMap Tk.cells)) (hF : FOk M (oFc g y)) (e0 : oneO quoteP l d f g j = r) :
    Calls Tryz.prog 166 [.pointer (some ⟨b1, 0, none⟩), .pointer (some ⟨b4, 0, none⟩), .pointer (some ⟨b3, 0, none⟩)].toArray wv (QRet w0 M0 M Rs 56 r fun g' k => ORet w0 M0 M Rs (fun _ : OG => .tuple #[]) (fun _ => True) (fun y' => oFc g' y') fun y' => [pBox b v k d, .box b3 [y'.vl] 72, .box b1 [.pointer (some ⟨b, 0, none⟩)] 58, ownHs y'.vl y'.hs, .box b4 [.map (some mb)] 208, .raw mb (smobj y'.sm y'.cl)]) := by
 obtain ⟨vl, hs, sm, cl⟩ := y
 have hfew := ok.few
 have hlen : hs.length = g.length := by have := RowsV.len (f := Tm.cells) (hF.get (k := 8) rfl).more; rw [List.length_map] at this; exact this
 have hhad : HadOk sm (g.map fun x => x.t.name) := (hF.get (k := 10) rfl).more
 have hgl := (hI.few (by omega)).2
 unfold oneO at e0
 refine xenter (Hr := Rs) ttok Tryz.func166 rfl Tryz.ntmps166 [(0, kn v 9 l Tk.cells), (6, kn vl 1 hs valI), (8, knR hs (g.map Tf.flat)), (10, knP (HadOk sm (g.map fun x => x.t.name)))] [(0, xBox b v j d), (1, .box b3 [.sl 6 vl] 72), (2, .box b1 [.bx 0 b 0] 58), (6, .ho (ownHs vl hs)), (4, .box b4 [.v (.map (some mb))] 208), (5, .ho (.raw mb (smobj sm cl)))] [.bx 2 b1 0, .bx 4 b4 0, .bx 1 b3 0] rfl hS (fc 0 hl (fun _ => rfl) hF) (fun B hB => ?_) rfl
 refine xcallK [0] (xTk (at' l j)) rfl (eok rfl) (by omega) Tryz.call25 rfl rfl (eok rfl) rfl (fun _ w M hS hF => now_c hS (hF.get (k := 0) rfl).sl hj0 hj1) rfl ?_
 refine xalloc 3 rfl (eok rfl) (by omega) Tryz.zeroValue63 rfl fun bt => ?_
 refine xmapGet 5 rfl (eok rfl) (by omega) rfl rfl (eok rfl) rfl Tryz.underlying208 Tryz.underlying9 Tryz.zeroValue4 (v := .bool (decide ((at' l j).s ∈ g.map fun x => x.t.name))) (by rw [hhad]; by_cases q : (at' l j).s ∈ g.map fun x => x.t.name <;> simp [q]) ?_
 refine xbr rfl (eok rfl) (by simp only [zb] <;> omega) (fun hb1 => ?_) (fun hb1 => ?_) <;> simp only [zb] at hb1
 ·rw [if_pos hb1] at e0
  subst e0
  exact xcallE [0] rfl (eok rfl) (by omega) rfl Tryz.call26 rfl (eok rfl) rfl (fun w M hS hF => failP_c 1 hS (hF.get (k := 0) rfl).sl hj0 hj1) fun a w M hs hS hle => post_panic _ (hB.p ⟨M, rfl, hS.drop _ (List.sublist_append_right [_, _, _, _, _, _] Rs), hle⟩ a hs)
 rw [if_neg (fun hh => hh.elim (fun q => hb1.1.elim (fun z => q.1 z) (fun z => q.2 z)) (fun q => hb1.2 q))] at e0
 have hj2 : j + 1 < len l := ok.last j hj0 hj1 fun e => by rw [e] at hb1; exact hb1.1.elim (fun z => by cases z) (fun z => by cases z)
 refine xmapPut false 5 (sset sm cl (at' l j).s (.bool true)) (sclk sm cl (at' l j).s (.bool true)) rfl (eok rfl) (by omega) rfl rfl rfl (eok rfl) rfl Tryz.underlying208 Tryz.underlying9 rfl rfl ?_
 cases hn : needA l (j + 1) [58] with
 | er ec p =>
  rw [hn] at e0; subst e0
  exact xcallE [0] rfl (eok rfl) (by simp only [zb] <;> omega) rfl Tryz.call128 rfl (eok rfl) rfl (fun w M hS hF => needQ _ hn hS (hF.get (k := 0) rfl).sl (by omega) hj2 (by omega)) fun a w M hs hS hle => post_panic _ (hB.p ⟨M, rfl, hS.drop _ (List.sublist_append_right [_, _, _, _, _, _] Rs), hle⟩ a hs)
 | ok u k =>
  obtain ⟨rfl, hk1, _⟩ := need_ok ok (by omega) hj2 hn
  rw [hn] at e0
  simp only [PR.bind] at e0
  refine xcallO [0] (fun _ : Unit => .tu []) [] (fun _ => [(0, xBox b v (j + 1 + 1) d)]) rfl (eok rfl) (by simp only [zb] <;> omega) rfl Tryz.call128 rfl rfl (eok rfl) rfl (fun w M hS hF => needQ _ hn hS (hF.get (k := 0) rfl).sl (by omega) hj2 (by omega)) (fun _ => rfl) (fun _ => rfl) fun _ _ => ?_
  cases hr : posA quoteP f l d (j + 1 + 1) with
  | er ec p =>
   rw [hr] at e0; subst e0
   exact xcallE [0] rfl (eok rfl) (by omega) rfl Tryz.call49 rfl (eok rfl) rfl (fun w M hS hF => H.pos hr ⟨hS, (hF.get (k := 0) rfl).sl, hg, ok, by omega, hk1⟩ hd.1 hd.2 (by omega) trivial) fun a w M hs hS hle => post_panic _ (hB.p ⟨M, rfl, hS.drop _ (List.sublist_append_right [_, _, _, _, _, _] Rs), hle⟩ a hs)
  | ok x m =>
   have gx := (all_good ok quoteP f).pos d _ x m (by omega) hk1 hr
   have hlt := gx.lt
   have hxp := x.flat_pos
   rw [hr] at e0
   simp only at e0
   subst e0
   refine xcallO [0] (fun h : SlH => .sl 7 h.v) [] (fun h => [(0, xBox b v m d), (7, pvF h.v x.flat)]) rfl (eok rfl) (by omega) rfl Tryz.call49 rfl rfl (eok rfl) rfl (fun w M hS hF => H.pos hr ⟨hS, (hF.get (k := 0) rfl).sl, hg, ok, by omega, hk1⟩ hd.1 hd.2 (by omega) trivial) (fun _ => rfl) (fun _ => rfl) fun h7 _ => ?_
   refine xset { at' x.flat 0 with name := (at' l j).s } rfl (eok rfl) (by simp only [zb] <;> omega) rfl (eok rfl) rfl Tryz.sizeOf9 rfl rfl rfl (by omega) fun x7 hx7 => ?_
   rw [show ((0 : Int).toNat) = 0 from rfl, Tf.named_set] at hx7
   subst hx7
   refine xtell 7 rfl ?_
   refine xlit 9 [h7] valI 1 23 valI_len rfl (eok rfl) (by omega) rfl (eok rfl) (fun w => by kernel_rfl) rfl fun v9 => ?_
   refine xapp 24 rfl (eok rfl) (by omega) rfl (eok rfl) rfl Tryz.underlying72 Tryz.type23 rfl rfl valI_one (by simp only [len_cons, len_nil]; unfold len at *; omega) fun v' => ?_
   refine xknow 8 (knR (hs ++ [h7]) ((g ++ [x.named (at' l j).s]).map Tf.flat)) (fun w M hX => ⟨Sl.nil M 1, strC_len, by rw [List.map_append]; exact RowsV.snoc (hX.sl 7 rfl) (hX.f.get (k := 8) rfl).more⟩) ?_
   have hh2 : HadOk (sset sm cl (at' l j).s (.bool true)) ((g ++ [x.named (at' l j).s]).map fun x => x.t.name) := by
    have := hhad.put cl (at' l j).s
    rw [List.map_append]
    have e : (x.named (at' l j).s).t.name = (at' l j).s := by cases x; rfl
    show HadOk _ (_ ++ [(x.named (at' l j).s).t.name])
    rw [e]; exact this
   exact xend hB rfl rfl (eok rfl) (by omega) fun w M' hX => ⟨⟨v', hs ++ [h7], sset sm cl (at' l j).s (.bool true), sclk sm cl (at' l j).s (.bool true)⟩, M', rfl, trivial, hX.le, hX.sel [0, 1, 2, 6, 4, 5] rfl, fcons (hX.f.get (k := 6) rfl) (fcons (hX.f.get (k := 8) rfl) (fcons ⟨Sl.nil M' 1, strC_len, hh2⟩ fnil))⟩
theorem oneO_ok {l : List Tk} (ok : LexOk l) {d : Int} {F : Nat} {g g' : List Tf} {j k : Int} (hj0 : 0 ≤ j) (hj1 : j < len l) (hI : smallP g j) (h : oneO quoteP l d F g j = .ok g' k) : j < k ∧ k < len l ∧ smallP g' k ∧ g'.isEmpty = false := by
 unfold oneO at h
 split at h
 ·exact (failA_no h).elim
 ·rename_i hc
  have h4 : j + 1 < len l := ok.last j hj0 hj1 fun e => hc (.inl ⟨by rw [e]; decide, by rw [e]; decide⟩)
  obtain ⟨u, n, h1, h2⟩ := bind_ok h
  obtain ⟨rfl, h5, _⟩ := need_ok ok (by omega) h4 h1
  obtain ⟨x, m, h6, h3⟩ := bind_ok h2
  cases h3
  have gx := (all_good ok quoteP F).pos d _ x _ (by omega) h5 h6
  have := gx.lt
  refine ⟨by omega, gx.le, ⟨by rw [flatF_snoc, Tf.named_len]; have := gx.size; have := hI.1; omega, by rw [len_app]; have := hI.2; show len g + 1 ≤ _; omega⟩, by simp⟩
def obsT (f : Nat) (l : List Tk) (d i : Int) : PR Tf := (openA l d i [123]).bind fun _ j => obsA quoteP f l (d + 1) [] j
theorem obsP {f : Nat} (H : ∀ g, g ≤ f → AllW g) : CtF 1 124 (obsT f) f anyP := by
 intro w0 wv M0 M Rs b v l i d r0 e0 h hd0 hd hf _
 obtain ⟨hS, hl, hg, ok, h0, h1⟩ := h
 have hfew := ok.few
 have hl0 := len_nonneg l
 unfold obsT at e0
 refine xenter (Hr := Rs) ttok Tryz.func124 rfl Tryz.ntmps124 [(0, kn v 9 l Tk.cells)] [(0, xBox b v i d)] [.bx 0 b 0] rfl hS (fc 0 hl (fun _ => rfl) fnil) (fun B hB => ?_) rfl
 refine xbox 1 rfl (eok rfl) (by omega) rfl rfl (eok rfl) fun b1 => ?_
 cases ho : openA l d i [123] with
 | er ec p =>
  rw [ho] at e0; subst e0
  exact xcallE [0] rfl (eok rfl) (by omega) rfl Tryz.call164 rfl (eok rfl) rfl (fun w M hS hF => openQ _ ho ⟨hS, (hF.get (k := 0) rfl).sl, hg, ok, h0, h1⟩ ⟨hd0, hd⟩) fun a w M hs hS hle => post_panic _ (hB.p ⟨M, rfl, hS.drop _ (List.sublist_cons_self _ _), hle⟩ a hs)
 | ok u j =>
  obtain ⟨rfl, hj1, hd64, _⟩ := open_ok ok h0 h1 ho
  rw [ho] at e0
  simp only [PR.bind] at e0
  rw [obsA_many] at e0
  refine xcallO [0] (fun _ : Unit => .tu []) [] (fun _ => [(0, xBox b v (i + 1) (d + 1))]) rfl (eok rfl) (by omega) rfl Tryz.call164 rfl rfl (eok rfl) rfl (fun w M hS hF => openQ _ ho ⟨hS, (hF.get (k := 0) rfl).sl, hg, ok, h0, h1⟩ ⟨hd0, hd⟩) (fun _ => rfl) (fun _ => rfl) fun _ _ => ?_
  refine xmapNew 5 rfl (eok rfl) (by omega) rfl fun mb => ?_
  refine xalloc 4 rfl (eok rfl) (by omega) Tryz.zeroValue208 rfl fun b4 => ?_
  refine xalloc 2 rfl (eok rfl) (by omega) Tryz.zeroValue72 rfl fun b3 => ?_
  refine xpv (.v (.func (.func 166) #[] #[.pointer (some ⟨b1, 0, none⟩), .pointer (some ⟨b4, 0, none⟩), .pointer (some ⟨b3, 0, none⟩)])) rfl (eok rfl) (by omega) rfl (fun w M hX => PV.makeFunc (xs := []) (ys := [.tmp 1, .tmp 3, .tmp 4]) (vs := []) (us := [.pointer (some ⟨b1, 0, none⟩), .pointer (some ⟨b4, 0, none⟩), .pointer (some ⟨b3, 0, none⟩)]) trivial ⟨opd_d (v := .bx 1 b1 0) (E := []) rfl (eok rfl), opd_d (v := .bx 4 b4 0) (E := []) rfl (eok rfl), opd_d (v := .bx 2 b3 0) (E := []) rfl (eok rfl), trivial⟩) ?_
  refine xnil0 6 23 1 valI valI_len ?_
  have hsm : smallP [] (i + 1) := ⟨by show (0 : Int) ≤ _; omega, by show (0 : Int) ≤ _; omega⟩
  have key : ∀ w M, St w0 M0 w M (pBox b v (i + 1) (d + 1) :: .box b3 [.slice none 0 0] 72 :: .box b1 [.pointer (some ⟨b, 0, none⟩)] 58 :: ownHs (.slice none 0 0) [] :: .box b4 [.map (some mb)] 208 :: .raw mb (smobj [] 0) :: Rs) → Sl M 9 l.length v (l.flatMap Tk.cells) → ∀ r, manyT (oneO quoteP l (d + 1)) List.isEmpty l [125] f [] (i + 1) = r →
     Calls Tryz.prog 165 [.pointer (some ⟨b, 0, none⟩), str [125], .func (.func 166) #[] #[.pointer (some ⟨b1, 0, none⟩), .pointer (some ⟨b4, 0, none⟩), .pointer (some ⟨b3, 0, none⟩)]].toArray w (QRet w0 M0 M Rs 56 r fun g m => ORet w0 M0 M Rs (fun _ : OG => .tuple #[]) (fun _ => True) (fun y => oFc g y) fun y => [pBox b v m d, .box b3 [y.vl] 72, .box b1 [.pointer (some ⟨b, 0, none⟩)] 58, ownHs y.vl y.hs, .box b4 [.map (some mb)] 208, .raw mb (smobj y.sm y.cl)]) := fun w M hS hl r er => by
   refine many_c (oneO quoteP l (d + 1)) List.isEmpty (fun _ y => .box b3 [y.vl] 72) (fun _ _ => .box b1 [.pointer (some ⟨b, 0, none⟩)] 58) (fun _ y => ownHs y.vl y.hs) (fun _ _ => .box b4 [.map (some mb)] 208) (fun _ y => .raw mb (smobj y.sm y.cl)) oFc smallP (d := d + 1) (d2 := d) (a := []) (bb := [.pointer (some ⟨b1, 0, none⟩), .pointer (some ⟨b4, 0, none⟩), .pointer (some ⟨b3, 0, none⟩)]) [125] f [] ⟨.slice none 0 0, [], [], 0⟩ er ⟨hS, hl, hg, ok, by omega, hj1⟩ ⟨by omega, by omega⟩ (by omega) Tryz.call166 (fcons ⟨Sl.nil M 1, valI_len, trivial⟩ (fcons ⟨Sl.nil M 1, strC_len, trivial⟩ (fcons ⟨Sl.nil M 1, strC_len, fun x => rfl⟩ fnil))) hsm rfl (by omega) (fun F g j g' k q0 q1 q2 q3 => oneO_ok ok q0 q1 q2 q3) (fun g j => smallP.up) fun F g y j w M' r q0 q1 q2 q3 q4 q5 q6 q7 q8 => object1_c (H F (by omega)) ⟨by omega, by omega⟩ hg ok q1 q2 q3 q4 q5 q6 q7 q8
  cases hm : manyT (oneO quoteP l (d + 1)) List.isEmpty l [125] f [] (i + 1) with
  | er ec p =>
   rw [hm] at e0; subst e0
   exact xcallE [0, 2, 1, 6, 4, 5] rfl (eok rfl) (by omega) rfl Tryz.call165 rfl (eok rfl) rfl (fun w M hS hF => key w M hS (hF.get (k := 0) rfl).sl _ hm) fun a w M hs hS hle => post_panic _ (hB.p ⟨M, rfl, hS, hle⟩ a hs)
  | ok g m =>
   rw [hm] at e0; simp only [PR.bind] at e0; subst e0
   refine xcallO [0, 2, 1, 6, 4, 5] (fun _ : OG => .tu []) [6, 8] (fun y => [(0, xBox b v m d), (2, .box b3 [.sl 6 y.vl] 72), (1, .box b1 [.bx 0 b 0] 58), (6, .ho (ownHs y.vl y.hs)), (4, .box b4 [.v (.map (some mb))] 208), (5, .ho (.raw mb (smobj y.sm y.cl)))]) rfl (eok rfl) (by omega) rfl Tryz.call165 rfl rfl (eok rfl) rfl (fun w M hS hF => key w M hS (hF.get (k := 0) rfl).sl _ hm) (fun _ => rfl) (fun _ => rfl) fun y _ => ?_
   obtain ⟨q, q0, q1, q2⟩ := manyT_inv ok (fun F g j g' k q0 q1 q2 q3 => let ⟨a1, a2, a3, _⟩ := oneO_ok ok q0 q1 q2 q3; ⟨a1, a2, a3⟩) (fun g j => smallP.up) f [] (i + 1) (by omega) hj1 hsm hm
   obtain ⟨q3, q4⟩ := q2.few (by omega)
   refine xcallO [] (fun h : SlH => .sl 7 h.v) [] (fun u => [(7, pvF u.v (Tf.mk (tmF 8) g).flat)]) rfl (eok rfl) (by omega) rfl Tryz.call122 rfl rfl (eok rfl) rfl (fun w M hS hF => madeN_c (tmF 8) y.vl y.hs g hS (hF.get (k := 6) rfl).sl (hF.get (k := 8) rfl).more (by omega) (by omega)) (fun _ => rfl) (fun _ => rfl) fun h7 _ => ?_
   exact xret hB rfl rfl (eok rfl) (by omega) rfl (eok rfl) fun w M' hX => ⟨h7, M', rfl, trivial, hX.le, hX.sel [0, 7] rfl, fnil⟩
end Go.Proofs.YtmjpjbmeamnfpaaGreatDoor
