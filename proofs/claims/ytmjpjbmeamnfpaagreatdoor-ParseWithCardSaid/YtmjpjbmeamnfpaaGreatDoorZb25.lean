/-
  The parser of filters: words, prims; all of them.
  THE ENGINE, PART 19: a deferred closure's region: behind its recover operation the others are plain. Over any program.
  THE ENGINE, PART 20: a body behind its one defer: the regions' rules as they are, the code's rules with the deferred call beside. Over any program.
  DEFER and RECOVER, in the executor. Over any program.
-/
import Derived.Test.YtmjpjbmeamnfpaaGreatDoorZb24
import Derived.Test.YtmjpjbmeamnfpaaGreatDoorZb8
import Derived.Defers
import Derived.Recover
import Derived.Test.YtmjpjbmeamnfpaaGreatDoorZb12
set_option linter.unusedVariables false
set_option linter.unusedSimpArgs false
set_option maxRecDepth 100000
namespace Go.Proofs.YtmjpjbmeamnfpaaGreatDoor
open Go.Eng

/-- The calls' names, as maps. -/
def wm1 : List SV := [⟨sToE, i64 10, 0⟩, ⟨sFromE, i64 11, 1⟩, ⟨sRev, i64 14, 2⟩]
def wm2 : List SV := [⟨sGroup, i64 12, 0⟩, ⟨sSort, i64 13, 1⟩, ⟨sDel, i64 15, 2⟩]
theorem wm1_get (x : Str) : sget wm1 x = (plainOps x).map fun o => i64 o := by
 show (if x == sToE then some (i64 10) else if x == sFromE then some (i64 11) else if x == sRev then some (i64 14) else none) = _
 unfold plainOps
 simp only [beq_iff_eq]
 by_cases h1 : x = sToE
 ·rw [if_pos h1, if_pos h1]; rfl
 rw [if_neg h1, if_neg h1]
 by_cases h2 : x = sFromE
 ·rw [if_pos h2, if_pos h2]; rfl
 rw [if_neg h2, if_neg h2]
 by_cases h3 : x = sRev
 ·rw [if_pos h3, if_pos h3]; rfl
 rw [if_neg h3, if_neg h3]; rfl
theorem wm2_get (x : Str) : sget wm2 x = (pathOps x).map fun o => i64 o := by
 show (if x == sGroup then some (i64 12) else if x == sSort then some (i64 13) else if x == sDel then some (i64 15) else none) = _
 unfold pathOps
 simp only [beq_iff_eq]
 by_cases h1 : x = sGroup
 ·rw [if_pos h1, if_pos h1]; rfl
 rw [if_neg h1, if_neg h1]
 by_cases h2 : x = sSort
 ·rw [if_pos h2, if_pos h2]; rfl
 rw [if_neg h2, if_neg h2]
 by_cases h3 : x = sDel
 ·rw [if_pos h3, if_pos h3]; rfl
 rw [if_neg h3, if_neg h3]; rfl
def pathX (l : List Tk) (o : Int) (j : Int) : PR Tf := (pathA quoteP l j).bind fun s k => .ok (.mk { tmF o with s := s } []) k
theorem word1_c {w0 wv : World} {M0 M : Mem} {Rs : List HO} {b b1 bo : Nat} {z1 z2 : HO} {v : Value} {l : List Tk} {i d o : Int} {r : PR Tf} (e0 : pathX l o i = r) (hg : Gl w0) (ok : LexOk l) (h0 : 0 ≤ i) (h1 : i < len l)
    (hS : St w0 M0 wv M (pBox b v i d :: .box bo [i64 o] 3 :: z1 :: z2 :: .box b1 [.pointer (some ⟨b, 0, none⟩)] 58 :: Rs)) (hl : Sl M 9 l.length v (l.flatMap Tk.cells)) :
    Calls Tryz.prog 161 [.pointer (some ⟨bo, 0, none⟩), .pointer (some ⟨b1, 0, none⟩)].toArray wv (EndF w0 M0 M (.box bo [i64 o] 3 :: z1 :: z2 :: .box b1 [.pointer (some ⟨b, 0, none⟩)] 58 :: Rs) b v d r) := by
 have hfew := ok.few
 unfold pathX at e0
 refine xenter (Hr := Rs) ttok Tryz.func161 rfl Tryz.ntmps161 [(0, kn v 9 l Tk.cells)] [(0, xBox b v i d), (1, .box bo [I o] 3), (3, .ho z1), (4, .ho z2), (2, .box b1 [.bx 0 b 0] 58)] [.bx 1 bo 0, .bx 2 b1 0] rfl hS (fc 0 hl (fun _ => rfl) fnil) (fun B hB => ?_) rfl
 refine xdrawO [2, 4, 5] 4 (fun _ _ _ _ _ h => h) rfl (eok rfl) (by omega) mixedK (by decide +kernel) ?_
 refine dg1 2 rfl (eok rfl) (by omega) rfl rfl ?_
 cases hp : pathA quoteP l i with
 | er ec p =>
  rw [hp] at e0; subst e0
  exact xcallE [0] rfl (eok rfl) (by omega) rfl Tryz.call162 rfl (eok rfl) rfl (fun w M hS hF => pathQ hp ⟨hS, (hF.get (k := 0) rfl).sl, hg, ok, h0, h1⟩) fun a w M hs hS hle => post_panic _ (hB.p ⟨M, rfl, hS, hle⟩ a hs)
 | ok s j =>
  rw [hp] at e0; simp only [PR.bind] at e0; subst e0
  refine xcallO [0] (fun _ : Unit => .v (str s)) [] (fun _ => [(0, xBox b v j d)]) rfl (eok rfl) (by omega) rfl Tryz.call162 rfl rfl (eok rfl) rfl (fun w M hS hF => pathQ hp ⟨hS, (hF.get (k := 0) rfl).sl, hg, ok, h0, h1⟩) (fun _ => rfl) (fun _ => rfl) fun _ _ => ?_
  refine xstep rfl (eok rfl) (by omega) ?_
  refine dg1 4 rfl (eok rfl) (by omega) rfl rfl ?_
  refine xcallO [] (fun h : SlH => .sl 7 h.v) [] (fun h => [(7, pvF h.v (Tf.mk { tmF o with s := s } []).flat)]) rfl (eok rfl) (by omega) rfl Tryz.call122 rfl rfl (eok rfl) rfl (fun w M hS hF => made0_c { tmF o with s := s } hS) (fun _ => rfl) (fun _ => rfl) fun h7 _ => ?_
  refine xstep rfl (eok rfl) (by omega) ?_
  refine dg1 5 rfl (eok rfl) (by omega) rfl rfl ?_
  refine xstep rfl (eok rfl) (by omega) ?_
  refine dg0 rfl (eok rfl) (by omega) rfl rfl ?_
  exact xret hB rfl rfl (eok rfl) (by omega) rfl (eok rfl) fun w M' hX => ⟨h7, M', rfl, trivial, hX.le, hX.sel [0, 7, 1, 3, 4, 2] rfl, fnil⟩
theorem callIn_c {k : Int} {fn : FuncId} {tw : List Tk → Int → Int → PR Tf} {f : Nat} (ct : CT Tryz.prog fn) (hC : CtF k fn tw f anyP) {l : List Tk} (good : ∀ d i x j, 0 ≤ i → i < len l → tw l d i = .ok x j → GoodR l i x j) {w0 wv : World} {M0 M : Mem} {Rs : List HO} {b : Nat} {v : Value} {i d : Int} {r : PR Tf} (hr : callA l d i (tw l (d + 1)) = r) (h : PIn w0 wv M0 M Rs b v l i d) (hd0 : 0 ≤ d) (hd : d ≤ 64) (hf : 8 * (len l - (i + 1)) + k ≤ (f : Int)) :
    Calls Tryz.prog 126 [.pointer (some ⟨b, 0, none⟩), .func (.func fn) #[.pointer (some ⟨b, 0, none⟩)] #[]].toArray wv (EndF w0 M0 M Rs b v d r) :=
 callP_c (a := [.pointer (some ⟨b, 0, none⟩)]) (bb := []) (tw l (d + 1)) hr h hd0 hd ct (fun x k q0 q1 => by have h0 := h.h0; have g := good (d + 1) _ x k (by omega) q0 q1; have h2 := g.lt; exact ⟨by omega, g.le⟩) fun q0 q1 w M' hS' hl' => hC rfl ⟨hS', hl', h.g, h.ok, by have := h.h0; omega, q0⟩ (by omega) (by omega) hf trivial
theorem callA_small {l : List Tk} (ok : LexOk l) {i d : Int} {X : Int → PR Tf} {x : Tf} {m : Int} (h0 : 0 ≤ i) (h1 : i < len l) (good : ∀ x k, i + 1 < len l → X (i + 1) = .ok x k → GoodR l (i + 1) x k) (h : callA l d i X = .ok x m) : len x.flat ≤ 4194304 ∧ PipeOk x := by
 obtain ⟨h4, _, k, h5, _⟩ := call_ok ok h0 h1 h
 have g := good x k h4 h5
 have := g.size
 have := g.le
 have := ok.few
 exact ⟨by omega, g.pipe⟩
theorem worP {f : Nat} (H : ∀ g, g ≤ f → AllW g) : CtF 1 123 (worA quoteP (f + 1)) (f + 1) fun l i => (at' l i).kind = 2 := by
 intro w0 wv M0 M Rs b v l i d r0 e0 h hd0 hd hf hk2
 obtain ⟨hS, hl, hg, ok, h0, h1⟩ := h
 have hfew := ok.few
 have hl0 := len_nonneg l
 have hi1 := kind_lt ok h0 h1 hk2 (by decide)
 rw [worA] at e0
 refine xenter (Hr := Rs) ttok Tryz.func123 rfl Tryz.ntmps123 [(0, kn v 9 l Tk.cells)] [(0, xBox b v i d)] [.bx 0 b 0] rfl hS (fc 0 hl (fun _ => rfl) fnil) (fun B hB => ?_) rfl
 refine xbox 1 rfl (eok rfl) (by omega) rfl rfl (eok rfl) fun b1 => ?_
 refine xmapNew 5 rfl (eok rfl) (by omega) rfl fun m1 => ?_
 refine xmapPut true 5 [⟨sToE, i64 10, 0⟩] 1 rfl (eok rfl) (by omega) rfl rfl rfl (eok rfl) rfl Tryz.underlying206 Tryz.underlying9 (by kernel_rfl) (by kernel_rfl) ?_
 refine xmapPut true 5 [⟨sToE, i64 10, 0⟩, ⟨sFromE, i64 11, 1⟩] 2 rfl (eok rfl) (by omega) rfl rfl rfl (eok rfl) rfl Tryz.underlying206 Tryz.underlying9 (by kernel_rfl) (by kernel_rfl) ?_
 refine xmapPut true 5 wm1 3 rfl (eok rfl) (by omega) rfl rfl rfl (eok rfl) rfl Tryz.underlying206 Tryz.underlying9 (by kernel_rfl) (by kernel_rfl) ?_
 refine xmapNew 6 rfl (eok rfl) (by omega) rfl fun m2 => ?_
 refine xmapPut true 6 [⟨sGroup, i64 12, 0⟩] 1 rfl (eok rfl) (by omega) rfl rfl rfl (eok rfl) rfl Tryz.underlying206 Tryz.underlying9 (by kernel_rfl) (by kernel_rfl) ?_
 refine xmapPut true 6 [⟨sGroup, i64 12, 0⟩, ⟨sSort, i64 13, 1⟩] 2 rfl (eok rfl) (by omega) rfl rfl rfl (eok rfl) rfl Tryz.underlying206 Tryz.underlying9 (by kernel_rfl) (by kernel_rfl) ?_
 refine xmapPut true 6 wm2 3 rfl (eok rfl) (by omega) rfl rfl rfl (eok rfl) rfl Tryz.underlying206 Tryz.underlying9 (by kernel_rfl) (by kernel_rfl) ?_
 refine xcallK [0] (xTk (at' l i)) rfl (eok rfl) (by omega) Tryz.call25 rfl rfl (eok rfl) rfl (fun _ w M hS hF => now_c hS (hF.get (k := 0) rfl).sl h0 h1) rfl ?_
 refine xmapGetOk 5 rfl (eok rfl) (by omega) rfl rfl (eok rfl) rfl Tryz.underlying206 Tryz.underlying9 Tryz.zeroValue3 (v := i64 ((plainOps (at' l i).s).getD 0)) (q := (plainOps (at' l i).s).isSome) (by rw [wm1_get]; cases plainOps (at' l i).s <;> rfl) (by rw [wm1_get]; cases plainOps (at' l i).s <;> rfl) ?_
 refine xbr rfl (eok rfl) (by omega) (fun hb1 => ?_) (fun hb1 => ?_)
 ·obtain ⟨o, ho⟩ := Option.isSome_iff_exists.1 hb1
  rw [ho] at e0
  simp only at e0
  subst e0
  refine xcallO [] (fun h : SlH => .sl 7 h.v) [] (fun h => [(7, pvF h.v (Tf.mk (tmF o) []).flat)]) rfl (eok rfl) (by simp only [zb] <;> omega) rfl Tryz.call122 rfl rfl (eok rfl) rfl (fun w M hS hF => by rw [ho]; exact made0_c (tmF o) hS) (fun _ => rfl) (fun _ => rfl) fun h7 _ => ?_
  exact xret hB rfl rfl (eok rfl) (by omega) rfl (eok rfl) fun w M' hX => ⟨h7, M', rfl, trivial, hX.le, hX.sel [0, 7] rfl, fnil⟩
 have hp1 : plainOps (at' l i).s = none := by cases hh : plainOps (at' l i).s with | none => rfl | some o => rw [hh] at hb1; cases hb1
 rw [hp1] at e0
 simp only at e0
 refine xmapGetOk 6 rfl (eok rfl) (by omega) rfl rfl (eok rfl) rfl Tryz.underlying206 Tryz.underlying9 Tryz.zeroValue3 (v := i64 ((pathOps (at' l i).s).getD 0)) (q := (pathOps (at' l i).s).isSome) (by rw [wm2_get]; cases pathOps (at' l i).s <;> rfl) (by rw [wm2_get]; cases pathOps (at' l i).s <;> rfl) ?_
 refine xalloc 8 rfl (eok rfl) (by omega) Tryz.zeroValue3 rfl fun bo => ?_
 refine xbr rfl (eok rfl) (by omega) (fun hb2 => ?_) (fun hb2 => ?_)
 ·obtain ⟨o, ho⟩ := Option.isSome_iff_exists.1 hb2
  rw [ho] at e0
  simp only at e0
  refine xpv (.v (.func (.func 161) #[] #[.pointer (some ⟨bo, 0, none⟩), .pointer (some ⟨b1, 0, none⟩)])) rfl (eok rfl) (by simp only [zb] <;> omega) rfl (fun w M hX => PV.makeFunc (xs := []) (ys := [.tmp 8, .tmp 1]) (vs := []) (us := [.pointer (some ⟨bo, 0, none⟩), .pointer (some ⟨b1, 0, none⟩)]) trivial ⟨opd_d (v := .bx 8 bo 0) (E := []) rfl (eok rfl), opd_d (v := .bx 1 b1 0) (E := []) rfl (eok rfl), trivial⟩) ?_
  have key : ∀ w M r, callA l d (i + 1) (pathX l o) = r → St w0 M0 w M (pBox b v (i + 1) d :: .box bo [i64 ((pathOps (at' l i).s).getD 0)] 3 :: .raw m2 (smobj wm2 3) :: .raw m1 (smobj wm1 3) :: .box b1 [.pointer (some ⟨b, 0, none⟩)] 58 :: Rs) → Sl M 9 l.length v (l.flatMap Tk.cells) →
     Calls Tryz.prog 126 [.pointer (some ⟨b, 0, none⟩), .func (.func 161) #[] #[.pointer (some ⟨bo, 0, none⟩), .pointer (some ⟨b1, 0, none⟩)]].toArray w (EndF w0 M0 M (.box bo [i64 ((pathOps (at' l i).s).getD 0)] 3 :: .raw m2 (smobj wm2 3) :: .raw m1 (smobj wm1 3) :: .box b1 [.pointer (some ⟨b, 0, none⟩)] 58 :: Rs) b v d r) := fun w M r hr hS hl => by
   rw [ho] at hS ⊢
   exact callP_c (a := []) (pathX l o) hr ⟨hS, hl, hg, ok, by omega, hi1⟩ hd0 hd Tryz.call161 (fun x k q0 q1 => by obtain ⟨s, k', q2, q3⟩ := bind_ok q1; cases q3; obtain ⟨q4, q5⟩ := path_ok ok (by omega) q0 q2; exact ⟨by omega, q5⟩) fun q0 q1 w M' hS' hl' => word1_c rfl hg ok (by omega) q0 hS' hl'
  cases hc : callA l d (i + 1) (pathX l o) with
  | er ec p =>
   have e1 := e0
   unfold pathX at hc
   rw [hc] at e1; subst e1
   exact xcallE [0] rfl (eok rfl) (by omega) rfl Tryz.call126 rfl (eok rfl) rfl (fun w M hS hF => key w M _ hc hS (hF.get (k := 0) rfl).sl) fun a w M hs hS hle => post_panic _ (hB.p ⟨M, rfl, hS.drop _ sub4, hle⟩ a hs)
  | ok x j =>
   have e1 := e0
   unfold pathX at hc
   rw [hc] at e1; subst e1
   refine xcallO [0] (fun h : SlH => .sl 7 h.v) [] (fun h => [(0, xBox b v j d), (7, pvF h.v x.flat)]) rfl (eok rfl) (by omega) rfl Tryz.call126 rfl rfl (eok rfl) rfl (fun w M hS hF => key w M _ hc hS (hF.get (k := 0) rfl).sl) (fun _ => rfl) (fun _ => rfl) fun h7 _ => ?_
   exact xret hB rfl rfl (eok rfl) (by omega) rfl (eok rfl) fun w M' hX => ⟨h7, M', rfl, trivial, hX.le, hX.sel [0, 7] rfl, fnil⟩
 have hp2 : pathOps (at' l i).s = none := by cases hh : pathOps (at' l i).s with | none => rfl | some o => rw [hh] at hb2; cases hb2
 rw [hp2] at e0
 simp only at e0
 refine xbr rfl (eok rfl) (by omega) (fun hb3 => ?_) (fun hb3 => ?_) <;> simp only [zb] at hb3
 ·replace hb3 : (at' l i).s = sMap := hb3
  rw [if_pos hb3] at e0
  refine xpv (.v (.func (.func 24) #[.pointer (some ⟨b, 0, none⟩)] #[])) rfl (eok rfl) (by simp only [zb] <;> omega) rfl (fun w M hX => PV.makeFunc (xs := [.tmp 64]) (ys := []) (vs := [.pointer (some ⟨b, 0, none⟩)]) (us := []) ⟨opd_d (v := .bx 0 b 0) (E := []) rfl (eok rfl), trivial⟩ trivial) ?_
  have key : ∀ {w M Rs r}, callA l d (i + 1) (filA quoteP f l (d + 1)) = r → St w0 M0 w M (pBox b v (i + 1) d :: Rs) → Sl M 9 l.length v (l.flatMap Tk.cells) → Calls Tryz.prog 126 [.pointer (some ⟨b, 0, none⟩), .func (.func 24) #[.pointer (some ⟨b, 0, none⟩)] #[]].toArray w (EndF w0 M0 M Rs b v d r) := fun hr hS hl =>
    callIn_c Tryz.call24 (H f (Nat.le_refl _)).fil (all_good ok quoteP f).fil hr ⟨hS, hl, hg, ok, by omega, hi1⟩ hd0 hd (by omega)
  cases hc : callA l d (i + 1) (filA quoteP f l (d + 1)) with
  | er ec p =>
   rw [hc] at e0; subst e0
   exact xcallE [0] rfl (eok rfl) (by omega) rfl Tryz.call126 rfl (eok rfl) rfl (fun w M hS hF => key hc hS (hF.get (k := 0) rfl).sl) fun a w M hs hS hle => post_panic _ (hB.p ⟨M, rfl, hS.drop _ sub4, hle⟩ a hs)
  | ok x j =>
   obtain ⟨hxs, hxp⟩ := callA_small ok (by omega) hi1 (fun x k q0 q1 => (all_good ok quoteP f).fil (d + 1) _ x k (by omega) q0 q1) hc
   rw [hc] at e0; simp only [PR.bind] at e0; subst e0
   refine xcallO [0] (fun h : SlH => .sl 7 h.v) [] (fun h => [(0, xBox b v j d), (7, pvF h.v x.flat)]) rfl (eok rfl) (by omega) rfl Tryz.call126 rfl rfl (eok rfl) rfl (fun w M hS hF => key hc hS (hF.get (k := 0) rfl).sl) (fun _ => rfl) (fun _ => rfl) fun h7 _ => ?_
   refine xtell 7 rfl ?_
   refine xlit 9 [h7] valI 1 23 valI_len rfl (eok rfl) (by omega) rfl (eok rfl) (fun w => by kernel_rfl) rfl fun v9 => ?_
   refine xcallO [] (fun h : SlH => .sl 10 h.v) [] (fun u => [(10, pvF u.v (Tf.mk (tmF 5) [x]).flat)]) rfl (eok rfl) (by omega) rfl Tryz.call122 rfl rfl (eok rfl) rfl (fun w M hS hF => made1_c (tmF 5) v9 h7 x hS (hF.get (k := 9) rfl).sl (hF.get (k := 7) rfl).sl (by omega)) (fun _ => rfl) (fun _ => rfl) fun h10 _ => ?_
   exact xret hB rfl rfl (eok rfl) (by omega) rfl (eok rfl) fun w M' hX => ⟨h10, M', rfl, trivial, hX.le, hX.sel [0, 10] rfl, fnil⟩
 replace hb3 : ¬ (at' l i).s = sMap := hb3
 rw [if_neg hb3] at e0
 refine xbr rfl (eok rfl) (by omega) (fun hb4 => ?_) (fun hb4 => ?_) <;> simp only [zb] at hb4
 ·replace hb4 : (at' l i).s = sVals := hb4
  rw [if_pos hb4] at e0
  refine xpv (.v (.func (.func 24) #[.pointer (some ⟨b, 0, none⟩)] #[])) rfl (eok rfl) (by simp only [zb] <;> omega) rfl (fun w M hX => PV.makeFunc (xs := [.tmp 80]) (ys := []) (vs := [.pointer (some ⟨b, 0, none⟩)]) (us := []) ⟨opd_d (v := .bx 0 b 0) (E := []) rfl (eok rfl), trivial⟩ trivial) ?_
  have key : ∀ {w M Rs r}, callA l d (i + 1) (filA quoteP f l (d + 1)) = r → St w0 M0 w M (pBox b v (i + 1) d :: Rs) → Sl M 9 l.length v (l.flatMap Tk.cells) → Calls Tryz.prog 126 [.pointer (some ⟨b, 0, none⟩), .func (.func 24) #[.pointer (some ⟨b, 0, none⟩)] #[]].toArray w (EndF w0 M0 M Rs b v d r) := fun hr hS hl =>
    callIn_c Tryz.call24 (H f (Nat.le_refl _)).fil (all_good ok quoteP f).fil hr ⟨hS, hl, hg, ok, by omega, hi1⟩ hd0 hd (by omega)
  cases hc : callA l d (i + 1) (filA quoteP f l (d + 1)) with
  | er ec p =>
   rw [hc] at e0; subst e0
   exact xcallE [0] rfl (eok rfl) (by omega) rfl Tryz.call126 rfl (eok rfl) rfl (fun w M hS hF => key hc hS (hF.get (k := 0) rfl).sl) fun a w M hs hS hle => post_panic _ (hB.p ⟨M, rfl, hS.drop _ sub4, hle⟩ a hs)
  | ok x j =>
   obtain ⟨hxs, hxp⟩ := callA_small ok (by omega) hi1 (fun x k q0 q1 => (all_good ok quoteP f).fil (d + 1) _ x k (by omega) q0 q1) hc
   rw [hc] at e0; simp only [PR.bind] at e0; subst e0
   refine xcallO [0] (fun h : SlH => .sl 7 h.v) [] (fun h => [(0, xBox b v j d), (7, pvF h.v x.flat)]) rfl (eok rfl) (by omega) rfl Tryz.call126 rfl rfl (eok rfl) rfl (fun w M hS hF => key hc hS (hF.get (k := 0) rfl).sl) (fun _ => rfl) (fun _ => rfl) fun h7 _ => ?_
   refine xtell 7 rfl ?_
   refine xlit 9 [h7] valI 1 23 valI_len rfl (eok rfl) (by omega) rfl (eok rfl) (fun w => by kernel_rfl) rfl fun v9 => ?_
   refine xcallO [] (fun h : SlH => .sl 10 h.v) [] (fun u => [(10, pvF u.v (Tf.mk (tmF 6) [x]).flat)]) rfl (eok rfl) (by omega) rfl Tryz.call122 rfl rfl (eok rfl) rfl (fun w M hS hF => made1_c (tmF 6) v9 h7 x hS (hF.get (k := 9) rfl).sl (hF.get (k := 7) rfl).sl (by omega)) (fun _ => rfl) (fun _ => rfl) fun h10 _ => ?_
   exact xret hB rfl rfl (eok rfl) (by omega) rfl (eok rfl) fun w M' hX => ⟨h10, M', rfl, trivial, hX.le, hX.sel [0, 10] rfl, fnil⟩
 replace hb4 : ¬ (at' l i).s = sVals := hb4
 rw [if_neg hb4] at e0
 refine xbr rfl (eok rfl) (by omega) (fun hb5 => ?_) (fun hb5 => ?_) <;> simp only [zb] at hb5
 ·replace hb5 : (at' l i).s = sWith := hb5
  rw [if_pos hb5] at e0
  refine xpv (.v (.func (.func 24) #[.pointer (some ⟨b, 0, none⟩)] #[])) rfl (eok rfl) (by simp only [zb] <;> omega) rfl (fun w M hX => PV.makeFunc (xs := [.tmp 96]) (ys := []) (vs := [.pointer (some ⟨b, 0, none⟩)]) (us := []) ⟨opd_d (v := .bx 0 b 0) (E := []) rfl (eok rfl), trivial⟩ trivial) ?_
  have key : ∀ {w M Rs r}, callA l d (i + 1) (filA quoteP f l (d + 1)) = r → St w0 M0 w M (pBox b v (i + 1) d :: Rs) → Sl M 9 l.length v (l.flatMap Tk.cells) → Calls Tryz.prog 126 [.pointer (some ⟨b, 0, none⟩), .func (.func 24) #[.pointer (some ⟨b, 0, none⟩)] #[]].toArray w (EndF w0 M0 M Rs b v d r) := fun hr hS hl =>
    callIn_c Tryz.call24 (H f (Nat.le_refl _)).fil (all_good ok quoteP f).fil hr ⟨hS, hl, hg, ok, by omega, hi1⟩ hd0 hd (by omega)
  cases hc : callA l d (i + 1) (filA quoteP f l (d + 1)) with
  | er ec p =>
   rw [hc] at e0; subst e0
   exact xcallE [0] rfl (eok rfl) (by omega) rfl Tryz.call126 rfl (eok rfl) rfl (fun w M hS hF => key hc hS (hF.get (k := 0) rfl).sl) fun a w M hs hS hle => post_panic _ (hB.p ⟨M, rfl, hS.drop _ sub4, hle⟩ a hs)
  | ok x j =>
   obtain ⟨hxs, hxp⟩ := callA_small ok (by omega) hi1 (fun x k q0 q1 => (all_good ok quoteP f).fil (d + 1) _ x k (by omega) q0 q1) hc
   rw [hc] at e0; simp only [PR.bind] at e0; subst e0
   refine xcallO [0] (fun h : SlH => .sl 7 h.v) [] (fun h => [(0, xBox b v j d), (7, pvF h.v x.flat)]) rfl (eok rfl) (by omega) rfl Tryz.call126 rfl rfl (eok rfl) rfl (fun w M hS hF => key hc hS (hF.get (k := 0) rfl).sl) (fun _ => rfl) (fun _ => rfl) fun h7 _ => ?_
   refine xtell 7 rfl ?_
   refine xlit 9 [h7] valI 1 23 valI_len rfl (eok rfl) (by omega) rfl (eok rfl) (fun w => by kernel_rfl) rfl fun v9 => ?_
   refine xcallO [] (fun h : SlH => .sl 10 h.v) [] (fun u => [(10, pvF u.v (Tf.mk (tmF 5) [x]).flat)]) rfl (eok rfl) (by omega) rfl Tryz.call122 rfl rfl (eok rfl) rfl (fun w M hS hF => made1_c (tmF 5) v9 h7 x hS (hF.get (k := 9) rfl).sl (hF.get (k := 7) rfl).sl (by omega)) (fun _ => rfl) (fun _ => rfl) fun h10 _ => ?_
   have hwl : len (flatF ([Tf.mk (tmF 10) [], Tf.mk (tmF 5) [x]] ++ [Tf.mk (tmF 11) []])) ≤ 137438953472 := by
    show len ((Tf.mk (tmF 10) []).flat ++ ((Tf.mk (tmF 5) [x]).flat ++ ((Tf.mk (tmF 11) []).flat ++ []))) ≤ _
    rw [len_app, len_app, len_app, Tf.flat_leaf, Tf.flat_leaf, Tf.flat_mk_len, flatF_one]
    show 1 + (1 + len x.flat + (1 + 0)) ≤ 137438953472; omega
   refine xcallO [] (fun h : SlH => .sl 11 h.v) [] (fun u => [(11, pvF u.v (Tf.mk (tmF 10) []).flat)]) rfl (eok rfl) (by omega) rfl Tryz.call122 rfl rfl (eok rfl) rfl (fun w M hS hF => made0_c (tmF 10) hS) (fun _ => rfl) (fun _ => rfl) fun h11 _ => ?_
   refine xcallO [] (fun h : SlH => .sl 12 h.v) [] (fun u => [(12, pvF u.v (Tf.mk (tmF 11) []).flat)]) rfl (eok rfl) (by omega) rfl Tryz.call122 rfl rfl (eok rfl) rfl (fun w M hS hF => made0_c (tmF 11) hS) (fun _ => rfl) (fun _ => rfl) fun h12 _ => ?_
   refine xtell 10 rfl (xtell 11 rfl ?_)
   refine xlit 13 [h11, h10, h12] valI 1 23 valI_len rfl (eok rfl) (by omega) rfl (eok rfl) (fun w => by kernel_rfl) rfl fun v13 => ?_
   refine xknow 14 (knR [h11, h10] ([Tf.mk (tmF 10) [], Tf.mk (tmF 5) [x]].map Tf.flat)) (fun w M hX => ⟨Sl.nil M 1, strC_len, hX.sl 11 rfl, hX.sl 10 rfl, trivial⟩) ?_
   refine xcallO [12] (fun h : SlH => .sl 15 h.v) [] (fun u => [(15, pvF u.v (pipedF ([Tf.mk (tmF 10) [], Tf.mk (tmF 5) [x]] ++ [Tf.mk (tmF 11) []])).flat)]) rfl (eok rfl) (by omega) rfl Tryz.call51 rfl rfl (eok rfl) rfl (fun w M hS hF => piped_c v13 [h11, h10] h12 [Tf.mk (tmF 10) [], Tf.mk (tmF 5) [x]] (Tf.mk (tmF 11) []) hS (hF.get (k := 13) rfl).sl (hF.get (k := 14) rfl).more (fun y hy => by
     rcases List.mem_cons.1 hy with rfl | hy
     · exact .no (by show (10 : Int) ≠ 4; decide)
     · rcases List.mem_cons.1 hy with rfl | hy
       · exact .no (by show (5 : Int) ≠ 4; decide)
       · rcases List.mem_cons.1 hy with rfl | hy
         · exact .no (by show (11 : Int) ≠ 4; decide)
         · cases hy) hwl) (fun _ => rfl) (fun _ => rfl) fun h15 _ => ?_
   exact xret hB rfl rfl (eok rfl) (by omega) rfl (eok rfl) fun w M' hX => ⟨h15, M', rfl, trivial, hX.le, hX.sel [0, 15] rfl, fnil⟩
 replace hb5 : ¬ (at' l i).s = sWith := hb5
 rw [if_neg hb5] at e0
 refine xbr rfl (eok rfl) (by omega) (fun hb6 => ?_) (fun hb6 => ?_) <;> simp only [zb] at hb6
 ·replace hb6 : (at' l i).s = sSelect := hb6
  rw [if_pos hb6] at e0
  refine xpv (.v (.func (.func 163) #[.pointer (some ⟨b, 0, none⟩)] #[])) rfl (eok rfl) (by simp only [zb] <;> omega) rfl (fun w M hX => PV.makeFunc (xs := [.tmp 119]) (ys := []) (vs := [.pointer (some ⟨b, 0, none⟩)]) (us := []) ⟨opd_d (v := .bx 0 b 0) (E := []) rfl (eok rfl), trivial⟩ trivial) ?_
  have key : ∀ {w M Rs r}, callA l d (i + 1) (eitA quoteP f l (d + 1)) = r → St w0 M0 w M (pBox b v (i + 1) d :: Rs) → Sl M 9 l.length v (l.flatMap Tk.cells) → Calls Tryz.prog 126 [.pointer (some ⟨b, 0, none⟩), .func (.func 163) #[.pointer (some ⟨b, 0, none⟩)] #[]].toArray w (EndF w0 M0 M Rs b v d r) := fun hr hS hl =>
    callIn_c Tryz.call163 (H f (Nat.le_refl _)).eit (all_good ok quoteP f).eit hr ⟨hS, hl, hg, ok, by omega, hi1⟩ hd0 hd (by omega)
  cases hc : callA l d (i + 1) (eitA quoteP f l (d + 1)) with
  | er ec p =>
   rw [hc] at e0; subst e0
   exact xcallE [0] rfl (eok rfl) (by omega) rfl Tryz.call126 rfl (eok rfl) rfl (fun w M hS hF => key hc hS (hF.get (k := 0) rfl).sl) fun a w M hs hS hle => post_panic _ (hB.p ⟨M, rfl, hS.drop _ sub4, hle⟩ a hs)
  | ok x j =>
   obtain ⟨hxs, hxp⟩ := callA_small ok (by omega) hi1 (fun x k q0 q1 => (all_good ok quoteP f).eit (d + 1) _ x k (by omega) q0 q1) hc
   rw [hc] at e0; simp only [PR.bind] at e0; subst e0
   refine xcallO [0] (fun h : SlH => .sl 7 h.v) [] (fun h => [(0, xBox b v j d), (7, pvF h.v x.flat)]) rfl (eok rfl) (by omega) rfl Tryz.call126 rfl rfl (eok rfl) rfl (fun w M hS hF => key hc hS (hF.get (k := 0) rfl).sl) (fun _ => rfl) (fun _ => rfl) fun h7 _ => ?_
   refine xtell 7 rfl ?_
   refine xlit 9 [h7] valI 1 23 valI_len rfl (eok rfl) (by omega) rfl (eok rfl) (fun w => by kernel_rfl) rfl fun v9 => ?_
   refine xcallO [] (fun h : SlH => .sl 10 h.v) [] (fun u => [(10, pvF u.v (Tf.mk (tmF 7) [x]).flat)]) rfl (eok rfl) (by omega) rfl Tryz.call122 rfl rfl (eok rfl) rfl (fun w M hS hF => made1_c (tmF 7) v9 h7 x hS (hF.get (k := 9) rfl).sl (hF.get (k := 7) rfl).sl (by omega)) (fun _ => rfl) (fun _ => rfl) fun h10 _ => ?_
   exact xret hB rfl rfl (eok rfl) (by omega) rfl (eok rfl) fun w M' hX => ⟨h10, M', rfl, trivial, hX.le, hX.sel [0, 10] rfl, fnil⟩
 replace hb6 : ¬ (at' l i).s = sSelect := hb6
 rw [if_neg hb6] at e0
 subst e0
 exact xcallE [0] rfl (eok rfl) (by omega) rfl Tryz.call26 rfl (eok rfl) rfl (fun w M hS hF => failP_c 1 hS (hF.get (k := 0) rfl).sl h0 h1) fun a w M hs hS hle => post_panic _ (hB.p ⟨M, rfl, hS.drop _ sub4, hle⟩ a hs)
theorem priP {f : Nat} (H : ∀ g, g ≤ f → AllW g) : CtF 2 81 (priA quoteP (f + 1)) (f + 1) anyP := by
 intro w0 wv M0 M Rs b v l i d r0 e0 h hd0 hd hf _
 obtain ⟨hS, hl, hg, ok, h0, h1⟩ := h
 have hfew := ok.few
 have hl0 := len_nonneg l
 rw [priA] at e0
 refine xenter (Hr := Rs) ttok Tryz.func81 rfl Tryz.ntmps81 [(0, kn v 9 l Tk.cells)] [(0, xBox b v i d)] [.bx 0 b 0] rfl hS (fc 0 hl (fun _ => rfl) fnil) (fun B hB => ?_) rfl
 refine xcallK [0] (xTk (at' l i)) rfl (eok rfl) (by omega) Tryz.call25 rfl rfl (eok rfl) rfl (fun _ w M hS hF => now_c hS (hF.get (k := 0) rfl).sl h0 h1) rfl ?_
 refine xalloc 3 rfl (eok rfl) (by omega) Tryz.zeroValue63 rfl fun bt => ?_
 refine xcallK [0] (.v (.bool (isM l i [46]))) rfl (eok rfl) (by omega) Tryz.call50 rfl rfl (eok rfl) rfl (fun _ w M hS hF => isP_c [46] hS (hF.get (k := 0) rfl).sl h0 h1) rfl ?_
 refine xbr rfl (eok rfl) (by omega) (fun hb1 => ?_) (fun hb1 => ?_)
 ·rw [if_pos hb1] at e0; subst e0
  refine xcallO [] (fun h : SlH => .sl 7 h.v) [] (fun u => [(7, pvF u.v (Tf.mk (tmF 0) []).flat)]) rfl (eok rfl) (by simp only [zb] <;> omega) rfl Tryz.call122 rfl rfl (eok rfl) rfl (fun w M hS hF => made0_c (tmF 0) hS) (fun _ => rfl) (fun _ => rfl) fun h7 _ => ?_
  exact xret hB rfl rfl (eok rfl) (by omega) rfl (eok rfl) fun w M' hX => ⟨h7, M', rfl, trivial, hX.le, hX.sel [0, 7] rfl, fnil⟩
 rw [if_neg (by rw [hb1]; decide)] at e0
 refine xbr rfl (eok rfl) (by omega) (fun hb2 => ?_) (fun hb2 => ?_) <;> simp only [zb] at hb2
 ·rw [if_pos hb2] at e0; subst e0
  refine xcallO [] (fun h : SlH => .sl 7 h.v) [] (fun u => [(7, pvF u.v (Tf.mk { tmF 1 with s := (at' l i).s } []).flat)]) rfl (eok rfl) (by simp only [zb] <;> omega) rfl Tryz.call122 rfl rfl (eok rfl) rfl (fun w M hS hF => made0_c { tmF 1 with s := (at' l i).s } hS) (fun _ => rfl) (fun _ => rfl) fun h7 _ => ?_
  exact xret hB rfl rfl (eok rfl) (by omega) rfl (eok rfl) fun w M' hX => ⟨h7, M', rfl, trivial, hX.le, hX.sel [0, 7] rfl, fnil⟩
 rw [if_neg hb2] at e0
 refine xbr rfl (eok rfl) (by omega) (fun hb3 => ?_) (fun hb3 => ?_) <;> simp only [zb] at hb3
 ·rw [if_pos hb3] at e0
  cases hr : worA quoteP f l d i with
  | er ec p =>
   rw [hr] at e0; subst e0
   exact xcallE [0] rfl (eok rfl) (by omega) rfl Tryz.call123 rfl (eok rfl) rfl (fun w M hS hF => (H f (Nat.le_refl _)).wor hr ⟨hS, (hF.get (k := 0) rfl).sl, hg, ok, h0, h1⟩ hd0 hd (by omega) hb3) fun a w M hs hS hle => post_panic _ (hB.p ⟨M, rfl, hS.drop _ (List.sublist_cons_self _ _), hle⟩ a hs)
  | ok x j =>
   rw [hr] at e0; subst e0
   refine xcallO [0] (fun h : SlH => .sl 7 h.v) [] (fun h => [(0, xBox b v j d), (7, pvF h.v x.flat)]) rfl (eok rfl) (by omega) rfl Tryz.call123 rfl rfl (eok rfl) rfl (fun w M hS hF => (H f (Nat.le_refl _)).wor hr ⟨hS, (hF.get (k := 0) rfl).sl, hg, ok, h0, h1⟩ hd0 hd (by omega) hb3) (fun _ => rfl) (fun _ => rfl) fun h7 _ => ?_
   exact xret hB rfl rfl (eok rfl) (by omega) rfl (eok rfl) fun w M' hX => ⟨h7, M', rfl, trivial, hX.le, hX.sel [0, 7] rfl, fnil⟩
 rw [if_neg hb3] at e0
 refine xcallK [0] (.v (.bool (isM l i [123]))) rfl (eok rfl) (by omega) Tryz.call50 rfl rfl (eok rfl) rfl (fun _ w M hS hF => isP_c [123] hS (hF.get (k := 0) rfl).sl h0 h1) rfl ?_
 refine xbr rfl (eok rfl) (by omega) (fun hb4 => ?_) (fun hb4 => ?_)
 ·rw [if_pos hb4] at e0
  cases hr : obsT f l d i with
  | er ec p =>
   have e1 := e0
   unfold obsT at hr
   rw [hr] at e1; subst e1
   exact xcallE [0] rfl (eok rfl) (by omega) rfl Tryz.call124 rfl (eok rfl) rfl (fun w M hS hF => obsP H hr ⟨hS, (hF.get (k := 0) rfl).sl, hg, ok, h0, h1⟩ hd0 hd (by omega) trivial) fun a w M hs hS hle => post_panic _ (hB.p ⟨M, rfl, hS.drop _ (List.sublist_cons_self _ _), hle⟩ a hs)
  | ok x j =>
   have e1 := e0
   unfold obsT at hr
   rw [hr] at e1; subst e1
   refine xcallO [0] (fun h : SlH => .sl 7 h.v) [] (fun h => [(0, xBox b v j d), (7, pvF h.v x.flat)]) rfl (eok rfl) (by omega) rfl Tryz.call124 rfl rfl (eok rfl) rfl (fun w M hS hF => obsP H hr ⟨hS, (hF.get (k := 0) rfl).sl, hg, ok, h0, h1⟩ hd0 hd (by omega) trivial) (fun _ => rfl) (fun _ => rfl) fun h7 _ => ?_
   exact xret hB rfl rfl (eok rfl) (by omega) rfl (eok rfl) fun w M' hX => ⟨h7, M', rfl, trivial, hX.le, hX.sel [0, 7] rfl, fnil⟩
 rw [if_neg (by rw [hb4]; decide)] at e0
 refine xcallK [0] (.v (.bool (isM l i [91]))) rfl (eok rfl) (by omega) Tryz.call50 rfl rfl (eok rfl) rfl (fun _ w M hS hF => isP_c [91] hS (hF.get (k := 0) rfl).sl h0 h1) rfl ?_
 refine xbr rfl (eok rfl) (by omega) (fun hb5 => ?_) (fun hb5 => ?_)
 ·rw [if_pos hb5] at e0
  cases hr : lisT f l d i with
  | er ec p =>
   have e1 := e0
   unfold lisT at hr
   rw [hr] at e1; subst e1
   exact xcallE [0] rfl (eok rfl) (by omega) rfl Tryz.call125 rfl (eok rfl) rfl (fun w M hS hF => lisP H hr ⟨hS, (hF.get (k := 0) rfl).sl, hg, ok, h0, h1⟩ hd0 hd (by omega) trivial) fun a w M hs hS hle => post_panic _ (hB.p ⟨M, rfl, hS.drop _ (List.sublist_cons_self _ _), hle⟩ a hs)
  | ok x j =>
   have e1 := e0
   unfold lisT at hr
   rw [hr] at e1; subst e1
   refine xcallO [0] (fun h : SlH => .sl 7 h.v) [] (fun h => [(0, xBox b v j d), (7, pvF h.v x.flat)]) rfl (eok rfl) (by omega) rfl Tryz.call125 rfl rfl (eok rfl) rfl (fun w M hS hF => lisP H hr ⟨hS, (hF.get (k := 0) rfl).sl, hg, ok, h0, h1⟩ hd0 hd (by omega) trivial) (fun _ => rfl) (fun _ => rfl) fun h7 _ => ?_
   exact xret hB rfl rfl (eok rfl) (by omega) rfl (eok rfl) fun w M' hX => ⟨h7, M', rfl, trivial, hX.le, hX.sel [0, 7] rfl, fnil⟩
 rw [if_neg (by rw [hb5]; decide)] at e0
 refine xpv (.v (.func (.func 24) #[.pointer (some ⟨b, 0, none⟩)] #[])) rfl (eok rfl) (by simp only [zb] <;> omega) rfl (fun w M hX => PV.makeFunc (xs := [.tmp 50]) (ys := []) (vs := [.pointer (some ⟨b, 0, none⟩)]) (us := []) ⟨opd_d (v := .bx 0 b 0) (E := []) rfl (eok rfl), trivial⟩ trivial) ?_
 have key : ∀ {w M Rs r}, callA l d i (filA quoteP f l (d + 1)) = r → St w0 M0 w M (pBox b v i d :: Rs) → Sl M 9 l.length v (l.flatMap Tk.cells) → Calls Tryz.prog 126 [.pointer (some ⟨b, 0, none⟩), .func (.func 24) #[.pointer (some ⟨b, 0, none⟩)] #[]].toArray w (EndF w0 M0 M Rs b v d r) := fun hr hS hl =>
   callIn_c Tryz.call24 (H f (Nat.le_refl _)).fil (all_good ok quoteP f).fil hr ⟨hS, hl, hg, ok, h0, h1⟩ hd0 hd (by omega)
 cases hc : callA l d i (filA quoteP f l (d + 1)) with
 | er ec p =>
  rw [hc] at e0; subst e0
  exact xcallE [0] rfl (eok rfl) (by omega) rfl Tryz.call126 rfl (eok rfl) rfl (fun w M hS hF => key hc hS (hF.get (k := 0) rfl).sl) fun a w M hs hS hle => post_panic _ (hB.p ⟨M, rfl, hS.drop _ (List.sublist_cons_self _ _), hle⟩ a hs)
 | ok x j =>
  rw [hc] at e0; subst e0
  refine xcallO [0] (fun h : SlH => .sl 7 h.v) [] (fun h => [(0, xBox b v j d), (7, pvF h.v x.flat)]) rfl (eok rfl) (by omega) rfl Tryz.call126 rfl rfl (eok rfl) rfl (fun w M hS hF => key hc hS (hF.get (k := 0) rfl).sl) (fun _ => rfl) (fun _ => rfl) fun h7 _ => ?_
  exact xret hB rfl rfl (eok rfl) (by omega) rfl (eok rfl) fun w M' hX => ⟨h7, M', rfl, trivial, hX.le, hX.sel [0, 7] rfl, fnil⟩
theorem allW : ∀ f, AllW f := by
 intro f
 induction f using Nat.strongRecOn with
 | _ f ih =>
  cases f with
  | zero =>
   have no : ∀ {k : Int} {fn : FuncId} {tw : List Tk → Int → Int → PR Tf} {P : List Tk → Int → Prop}, 0 ≤ k → CtF k fn tw 0 P := fun {k fn tw P} hk {w0 wv M0 M Rs b v l i d r} _ h _ _ hf _ => by have := h.h1; exfalso; omega
   exact ⟨no (k := 4) (by decide), no (k := 3) (by decide), no (k := 2) (by decide), no (k := 1) (P := fun l i => (at' l i).kind = 2) (by decide), no (k := 3) (by decide), no (k := 2) (by decide), no (k := 1) (by decide)⟩
  | succ f =>
   have H : ∀ g, g ≤ f → AllW g := fun g hg => ih g (by omega)
   exact ⟨filP H, postP H, priP H, worP H, eitP H, botP H, sinP H⟩
end Go.Proofs.YtmjpjbmeamnfpaaGreatDoor
namespace Go.Eng
open Go.RowKit
theorem wpOpsS_of_wpList {P : Program} {ops : Array Oper} {Q : Exit → Act → List Frame → World → Prop} {cs : List Frame} (hq : ¬ LetsOut (fun e a w => Q e a cs w)) (l : List Oper) :
    ∀ (k : Nat), (∀ j, l[j]? = ops[k + j]?) → ∀ a w, wpList P ops (fun e a w => Q e a cs w) l a w → wpOpsS P ops Q (List.range' k l.length) a cs w := by
  induction l with
  | nil => intro k _ a w h; exact h
  | cons o l ih =>
    intro k hk a w h
    have h0 : ops[k]? = some o := by simpa using (hk 0).symm
    have ih' := ih (k + 1) (fun j => by have := hk (j + 1); simpa [Nat.add_assoc, Nat.add_comm 1 j] using this)
    simp only [List.length_cons, List.range'_succ, wpOpsS, h0]
    unfold wpList at h
    by_cases hw : Region.wanted o (yielded ops a.tmps) = true
    · rw [if_pos hw] at h ⊢
      have h1 := (h.resolve_right fun hh => hq hh.2)
      have h2 := Oper.wp_mono (fun a' w' hh => ih' a' w' hh) h1
      unfold Oper.wp at h2
      split
      · rename_i w' he; rw [he] at h2; exact h2.elim
      · exact h2
    · rw [if_neg hw] at h ⊢
      exact ih' _ _ h
/-- A region that begins with recover. -/
theorem wpS_recovers {P : Program} {Q : Exit → Act → List Frame → World → Prop} {cs cs' : List Frame} {id : Nat} {o0 : Oper} {l : List Oper} {a : Act} {w : World} {v : Value} (hg : o0.guard = none) (hrun : (execOp a.eval o0).run P w = .ok .recover w)
    (hrec : recoverD cs = some (v, cs') ∨ (recoverD cs = none ∧ v = .nilIface ∧ cs' = cs)) (hq : ¬ LetsOut (fun e a w => Q e a cs' w)) (h : wpList P (o0 :: l).toArray (fun e a w => Q e a cs' w) l (a.put o0.dst v) w) :
    (Code.region id (o0 :: l).toArray false).wpS P Q a cs w := by
  refine wpS_region ?_
  have hw : Region.wanted o0 (yielded (o0 :: l).toArray a.tmps) = true := by unfold Region.wanted; rw [hg]
  have h1 := wpOpsS_of_wpList (ops := (o0 :: l).toArray) hq l 1 (fun j => by simp [Nat.add_comm 1 j]) _ _ h
  rw [show List.range (o0 :: l).toArray.size = 0 :: List.range' 1 l.length from by simp [List.range_eq_range', List.range'_succ]]
  unfold wpOpsS
  rw [show (o0 :: l).toArray[0]? = some o0 from by simp]
  dsimp only
  rw [if_pos hw, hrun]
  dsimp only
  rcases hrec with hr | ⟨hr, rfl, rfl⟩
  · rw [hr]; exact h1
  · rw [hr]; exact h1
section
variable {P : Program} {C : World → Prop} {L : Env} {W : Bool} {d : Option Tmp} {ty : TypeId} {ps : String} {af : Array Edge} {gd : Option (Nat × Bool)}
theorem PV.asserts {xt t : TypeId} {x : Operand} {v : Value} {fs : Array Field} (hx : Opd L W x (.iface t v)) (ht : P.underlying t = some (.struct fs)) : PV P C L W ⟨d, .typeAssert x xt t true, ty, ps, af, gd⟩ (.tuple #[v, .bool true]) :=
  .un (f := fun u => Instr.typeAssert u xt t true) (fun _ => rfl) hx fun _ w _ => by
    simp only [Instr.typeAssert, Sem.run_bind, run_underlying ht, Result.andThen_ok]
    simp [Sem.run_pure]
theorem PV.assertsNo {xt t : TypeId} {x : Operand} {z : Value} {fs : Array Field} (hx : Opd L W x .nilIface) (ht : P.underlying t = some (.struct fs)) (hz : ∀ w, (zeroValue t).run P w = .ok z w) : PV P C L W ⟨d, .typeAssert x xt t true, ty, ps, af, gd⟩ (.tuple #[z, .bool false]) :=
  .un (f := fun u => Instr.typeAssert u xt t true) (fun _ => rfl) hx fun _ w _ => by
    simp only [Instr.typeAssert, Sem.run_bind, run_underlying ht, Result.andThen_ok]
    simp [Sem.run_bind, Sem.run_pure, hz]
end
/-- What recover finds in a frame of this mode, and how it leaves it. -/
def recMode : FrameMode → Value × FrameMode
  | .panicking ({ v, recovered := false, goexit := false } :: older) => (v, .panicking ({ v, recovered := true } :: older))
  | u => (.nilIface, u)
theorem recoverD_mode (c : Frame) (cs : List Frame) : recoverD (c :: cs) = some ((recMode c.mode).1, { c with mode := (recMode c.mode).2 } :: cs) ∨ (recoverD (c :: cs) = none ∧ (recMode c.mode).1 = .nilIface ∧ { c with mode := (recMode c.mode).2 } :: cs = c :: cs) := by
  obtain ⟨_, _, _, _, m, _, _⟩ := c
  cases m with
  | panicking ch =>
    cases ch with
    | nil => exact .inr ⟨rfl, rfl, rfl⟩
    | cons p older =>
      obtain ⟨v, r, g⟩ := p
      cases r <;> cases g <;> first | exact .inl rfl | exact .inr ⟨rfl, rfl, rfl⟩
  | _ => exact .inr ⟨rfl, rfl, rfl⟩
/-- A deferred closure without results, whose body begins with recover. -/
theorem enterS {P : Program} {f : FuncId} {fn : Func} {id d N : Nat} {o0 : Oper} {l : List Oper} {y : Code} {vs : List Value} {u : FrameMode} {w : World} {S : World → Prop} (hf : P.funcs[f]? = some fn) (hb : fn.body = some (.seq (.region id (o0 :: l).toArray false) y)) (hn : fn.ntmps = N) (hl : vs.length ≤ N)
    (hres : fn.results = #[]) (hg : o0.guard = none) (hd : o0.dst = some d) (hdN : Nat.blt d N = true) (hrun : ∀ (a : Act) w, (execOp a.eval o0).run P w = .ok .recover w)
    (h : ∀ (K : Act → World → Prop) (Q : Exit → Act → World → Prop), (∀ a w', y.wp P Q a w' → K a w') → (∀ a w', a.defers = [] → S w' → Q .normal a w') → RL P (o0 :: l).toArray (Exit.then K Q) N l ((d, true, (recMode u).1) :: envOf 0 vs) w) :
    CallsD P f vs.toArray u w (fun e u' w' => e = .returned (.tuple #[]) ∧ u' = (recMode u).2 ∧ S w') := by
  refine callsD_of_wpS hf hb fun c₀ cs hu => wpS_seq ?_
  subst hu
  have hs := Slots.enter vs N hl
  rw [← hn] at hs
  refine wpS_recovers hg (hrun _ _) (recoverD_mode c₀ cs) ?_ ?_
  · rintro ⟨a, w', h1⟩
    obtain ⟨u', h2, _⟩ := h1
    cases h2
  · subst hn
    have hput := hs.put hdN true (recMode c₀.mode).1
    rw [hd]
    have hh := h (fun a w' => y.wpS P (bodyPostS P fn c₀ cs (fun e u' w' => e = .returned (.tuple #[]) ∧ u' = (recMode c₀.mode).2 ∧ S w')) a ({ c₀ with mode := (recMode c₀.mode).2 } :: cs) w')
      (fun e a w' => bodyPostS P fn c₀ cs (fun e u' w' => e = .returned (.tuple #[]) ∧ u' = (recMode c₀.mode).2 ∧ S w') e a ({ c₀ with mode := (recMode c₀.mode).2 } :: cs) w')
      (fun a w' h1 => wpS_of_wp h1) (fun a w' h1 h2 => ⟨h1, _, rfl, _, results_none hres _ _ _, rfl, rfl, h2⟩) _ hput
    refine Eq.mp ?_ hh
    congr 1
    funext e a w'
    cases e <;> rfl
end Go.Eng
namespace Go.Eng
open Go.RowKit
/-- With these deferred calls besides. -/
def appD (D : List Deferred) (a : Act) : Act := ⟨a.tmps, a.defers ++ D⟩
theorem appD_eval (D : List Deferred) (a : Act) : (appD D a).eval = a.eval := by funext x; cases x <;> rfl
theorem appD_put (D : List Deferred) (a : Act) (d : Option Tmp) (v : Value) : (appD D a).put d v = appD D (a.put d v) := by cases d <;> rfl
section
variable {P : Program} {ops : Array Oper} {D : List Deferred} {Q : Exit → Act → World → Prop} {N : Nat} {L : Env} {w : World}
theorem upon_app {o : Oper} {a : Act} {n n' : Act → World → Prop} (hn : ∀ a w, n' a w → n (appD D a) w) (r : Result Next) (h : o.upon P a n' (fun e a w => Q e (appD D a) w) r) : o.upon P (appD D a) n Q r := by
  cases r with
  | ok x w' =>
    cases x with
    | value v => rw [Oper.upon_value] at h ⊢; rw [appD_put]; exact hn _ _ h
    | skip => rw [Oper.upon_skip] at h ⊢; rw [appD_put]; exact hn _ _ h
    | defer d =>
      rw [Oper.upon_defer] at h ⊢
      have e : ({ appD D a with defers := d :: (appD D a).defers } : Act) = appD D { a with defers := d :: a.defers } := rfl
      rw [e, appD_put]; exact hn _ _ h
    | enter f args =>
      rw [Oper.upon_enter] at h ⊢
      refine h.mono fun e w'' he => ?_
      cases e with
      | returned v => dsimp only at he ⊢; rw [appD_put]; exact hn _ _ he
      | panicked ch => exact he
      | outgrown => obtain ⟨a2, w2, h2⟩ := he; exact ⟨_, _, h2⟩
    | row r args =>
      rw [Oper.upon_row] at h ⊢
      exact Rows.mono h fun v w'' he => by rw [appD_put]; exact hn _ _ he
    | _ => exact h.elim
  | halt x w' =>
    cases x with
    | panic v => exact h
    | _ => exact h.elim
theorem wpList_app (l : List Oper) : ∀ (a : Act) (w : World), wpList P ops (fun e a w => Q e (appD D a) w) l a w → wpList P ops Q l (appD D a) w := by
  induction l with
  | nil => intro a w h; exact h
  | cons o l ih =>
    intro a w h
    unfold wpList at h ⊢
    show if Region.wanted o (yielded ops a.tmps) = true then _ else _
    by_cases hw : Region.wanted o (yielded ops a.tmps) = true
    · rw [if_pos hw] at h ⊢
      rcases h with h | ⟨ha, a2, w2, h2⟩
      · left
        unfold Oper.wp at h ⊢
        rw [appD_eval]
        exact upon_app ih _ h
      · right
        refine ⟨?_, _, _, h2⟩
        unfold Oper.asks at ha ⊢
        rw [appD_eval]; exact ha
    · rw [if_neg hw] at h ⊢
      rw [appD_put]; exact ih _ _ h
/-- As CW, with these deferred calls besides. -/
def CWD (P : Program) (D : List Deferred) (c : Code) (Q : Exit → Act → World → Prop) (N : Nat) (L : Env) (w : World) : Prop := ∀ a, Slots a N L → c.wp P Q (appD D a) w
theorem CWD.seq {x y : Code} (h : CWD P D x (Exit.then (y.wp P Q) Q) N L w) : CWD P D (.seq x y) Q N L w := fun a hs => wp_seq (h a hs)
theorem CWD.region {id : Nat} {l : List Oper} (h : RL P l.toArray (fun e a w => Q e (appD D a) w) N l L w) : CWD P D (.region id l.toArray false) Q N L w := fun a hs => wp_region_lit (wpList_app _ _ _ (h a hs))
theorem CWD.sr {id : Nat} {l : List Oper} {y : Code} (h : RL P l.toArray (fun e a w => Exit.then (y.wp P Q) Q e (appD D a) w) N l L w) : CWD P D (.seq (.region id l.toArray false) y) Q N L w := CWD.seq (CWD.region h)
theorem CWD.cond {c : Nat} {x y : Code} {b : Bool} (hc : look L c = some (true, .bool b)) (ht : b = true → CWD P D x Q N L w) (hf : b = false → CWD P D y Q N L w) : CWD P D (.cond (.tmp c) x y) Q N L w :=
  fun a hs => wp_cond_split (show (appD D a).eval (.tmp c) = .bool b from by rw [appD_eval]; exact hs.get hc) (fun hb => ht hb a hs) (fun hb => hf hb a hs)
theorem CWD.skip (h : ∀ a, Slots a N L → Q .normal (appD D a) w) : CWD P D .skip Q N L w := fun a hs => wp_skip (h a hs)
theorem CWD.ret (h : ∀ a, Slots a N L → Q .ret (appD D a) w) : CWD P D .ret Q N L w := fun a hs => wp_ret (h a hs)
theorem CWD.id {y : Code} {Q' : Exit → Act → World → Prop} (h : CWD P D y Q' N L w) : ∀ a, Slots a N L → y.wp P Q' (appD D a) w := h
theorem CWD.at {y : Code} {Q' : Exit → Act → World → Prop} (L' : Env) (hk : Eng.keep (keysOf L') L = L') (h : CWD P D y Q' N L' w) : ∀ a, Slots a N L → y.wp P Q' (appD D a) w := fun a hs => h a (hk ▸ hs.keep _)
/-- The ends of a body that defers. -/
structure EndsD (P : Program) (fn : Func) (R : Ending → World → Prop) (Q : Exit → Act → World → Prop) : Prop where
  all : ∀ e a w, bodyPostD P fn R e a w → Q e a w
theorem CWD.enter {f : FuncId} {fn : Func} {c : Code} {vs : List Value} {R : Ending → World → Prop} (hf : P.funcs[f]? = some fn) (hb : fn.body = some c) (hn : fn.ntmps = N) (hl : vs.length ≤ N)
    (h : ∀ Q, EndsD P fn R Q → CW P c Q N (envOf 0 vs) w) : Calls P f vs.toArray w R :=
  calls_of_wp_defers hf hb (by rw [hn]; exact h _ ⟨fun _ _ _ h => h⟩ _ (Slots.enter vs N hl))
theorem EndsD.p {fn : Func} {R : Ending → World → Prop} {ch : List PanicEntry} (E : EndsD P fn R Q) (h : ∀ a, Slots a N L → Leaves P fn a.tmps R D (.panicking ch) w) : ∀ a, Slots a N L → Q (.panic ch) (appD D a) w :=
  fun a hs => E.all _ _ _ (by show Leaves P fn a.tmps R (a.defers ++ D) _ w; rw [hs.dfr]; exact h a hs)
theorem EndsD.r {fn : Func} {R : Ending → World → Prop} (E : EndsD P fn R Q) (h : ∀ a, Slots a N L → Leaves P fn a.tmps R D .returning w) : ∀ a, Slots a N L → Q .ret (appD D a) w :=
  fun a hs => E.all _ _ _ (by show Leaves P fn a.tmps R (a.defers ++ D) _ w; rw [hs.dfr]; exact h a hs)
/-- The defer of a closure, last in its region. -/
theorem RL.defer {f : FuncId} {x : Operand} {cs : List Value} {tys : Array TypeId} {ty : TypeId} {ps : String} {af : Array Edge} (hx : Opd L true x (.func (.func f) #[] cs.toArray)) (h : RL P ops (fun e a w => Q e (appD [{ target := .fn (.func f) cs.toArray, args := #[] }] a) w) N [] L w) :
    RL P ops Q N [⟨none, .defer ⟨.value x, #[], tys⟩, ty, ps, af, none⟩] L w := by
  intro a hs
  refine wpList_plain rfl fun K hK => ?_
  have key : (execOp a.eval ⟨none, .defer ⟨.value x, #[], tys⟩, ty, ps, af, none⟩).run P w = .ok (.defer { target := .fn (.func f) cs.toArray, args := #[] }) w := by
    simp only [execOp, resolve, hx a N hs rfl, Deferred.ofValue, Sem.run_bind, Sem.run_pure, Result.andThen_ok]
    simp
  simp only [Oper.wp, key, Oper.upon_defer]
  have h1 := h a hs
  refine hK _ _ ?_
  show Q .normal (Act.put { a with defers := _ :: a.defers } none undef) w
  rw [hs.dfr]
  have h2 : Q .normal (appD [{ target := .fn (.func f) cs.toArray, args := #[] }] a) w := h1
  unfold appD at h2
  rw [hs.dfr] at h2
  exact h2
/-- One deferred closure, that comes back: the frame leaves in the mode in which it left it. -/
theorem leaves_one {fn : Func} {R : Ending → World → Prop} {f : FuncId} {tmps : Array Value} {cs : List Value} {u : FrameMode} {S : World → Prop} (ct : ∀ args w, (callFunc f args).run P w = .ok (.enter f args) w) (hu : u ≠ .run) (hm : settle (recMode u).2 = .returning)
    (hc : CallsD P f cs.toArray u w (fun e u' w' => e = .returned (.tuple #[]) ∧ u' = (recMode u).2 ∧ S w')) (h : ∀ w', S w' → ∃ v, (results fn tmps).run P w' = .ok v w' ∧ R (.returned v) w') :
    Leaves P fn tmps R [{ target := .fn (.func f) cs.toArray, args := #[] }] u w := by
  refine leaves_cons hu (args := cs.toArray) (f := f) (by simp [invoke, go_sem, ct]) (hc.mono ?_)
  rintro e u' w' ⟨rfl, rfl, hS⟩
  show Leaves P fn tmps R [] (settle (recMode u).2) w'
  rw [hm]
  exact h w' hS
end
end Go.Eng
namespace Go.Eng
open Go.RowKit

/-- Behind a defer. -/
def cDs (c : Cx) (ds : List Deferred) : Cx := { c with W := Wk.dfr c.P ds }
def bDs (ds : List Deferred) (B : Exit → Act → World → Prop) : Exit → Act → World → Prop := fun e a w => B e (upD ds a) w
theorem post_dfrs {c : Cx} {ds : List Deferred} {B : Exit → Act → World → Prop} (hw : ∀ x Q a w, x.wp c.P Q a w → c.W.wp x Q a w) : ∀ (k : List Fr), kok k = true → ∀ e a w, post (cDs c ds) (bDs ds B) k e a w → post c B k e (upD ds a) w
  | [], _, e, a, w, h => h
  | .seq y :: k, hk, e, a, w, h => by
    unfold kok at hk
    rw [Bool.and_eq_true] at hk
    have ih := post_dfrs (ds := ds) (B := B) hw k hk.2
    cases e with
    | normal =>
      have h : straight y = true → y.wp c.P (upQ ds (post (cDs c ds) (bDs ds B) k)) (upD ds a) w := h
      refine hw _ _ _ _ (wp_mono (h hk.1) fun e a w ⟨a0, e0, q⟩ => ?_)
      subst e0; exact ih _ _ _ q
    | _ => exact ih _ a w h
  | .block id :: k, hk, e, a, w, h => by
    have ih := post_dfrs (ds := ds) (B := B) hw k hk
    cases e with
    | exit id' =>
      have h : if id' = id then post (cDs c ds) (bDs ds B) k .normal a w else post (cDs c ds) (bDs ds B) k (.exit id') a w := h
      show if id' = id then _ else _
      split <;> rename_i hid
      · rw [if_pos hid] at h; exact ih _ a w h
      · rw [if_neg hid] at h; exact ih _ a w h
    | _ => exact ih _ a w h
  | .scope :: k, hk, e, a, w, h => by
    have ih := post_dfrs (ds := ds) (B := B) hw k hk
    cases e <;> first | exact h.elim | exact ih _ a w h
  | .loop J :: k, hk, _, _, _, _ => by cases hk
/-- The beginning of a function that defers. -/
theorem xenterD {P : Program} {N : Nat} {w0 w : World} {M0 M : Mem} {Hr : List HO} {T : TT} (hT : TOk P T) {f : FuncId} {fn : Func} {x : Code} {R : Ending → World → Prop} (hf : P.funcs[f]? = some fn) (hb : fn.body = some x) (hn : fn.ntmps = N)
    (F : List (Nat × Kn)) (H : List (Nat × HX)) (vs : List XV) (hl : Nat.ble vs.length N = true) (hS : St w0 M0 w M (HD H ++ Hr)) (hF : FOk M F)
    (h : ∀ B, EndsD P fn R B → XG ⟨P, N, w0, M0, M, Hr, T, hT, .wide P⟩ B [] (.code x) ⟨F, H, xargs 0 vs⟩) {av : List Value} (ha : vs.map XV.d = av) : Calls P f av.toArray w R := by
  subst ha
  refine calls_of_wp_defers hf hb ?_
  rw [hn]
  have hs := Slots.enter (vs.map XV.d) N (by rw [List.length_map]; exact Nat.le_of_ble_eq_true hl)
  exact h _ ⟨fun _ _ _ h => h⟩ _ w ⟨by rw [← xargs_d] at hs; exact hs, M, hS, hF, Mem.le.refl _⟩
section
variable {c : Cx} {B : Exit → Act → World → Prop} {k k' : List Fr} {m : Md} {s s' : XS} {O : Prop} {E : List Ck} {all : Array Oper} {ty : TypeId} {ps : String} {af : Array Edge}
abbrev dcl (f : FuncId) (cs : List Value) : List Deferred := [{ target := .fn (.func f) cs.toArray, args := #[] }]
/-- A defer of a closure, the last one of its region. -/
theorem xdefer {x : Operand} {f : FuncId} {cs : List Value} {tys : Array TypeId} {E1 : List Ck} (hw : ∀ x Q a w, x.wp c.P Q a w → c.W.wp x Q a w) (hl : ∀ ops Q l a w, wpList c.P ops Q l a w → c.W.list ops Q l a w)
    (h : run c.T c.N k m s = ⟨k', .ops all [⟨none, .defer ⟨.value x, #[], tys⟩, ty, ps, af, none⟩], s', O, E⟩) (hE : EOk E) (hO : O) (hx : opd s'.L .t x = some (.v (.func (.func f) #[] ⟨cs⟩), E1)) (hE1 : EOk E1) (hk : kok k' = true)
    (hn : XG (cDs c (dcl f cs)) (bDs (dcl f cs) B) k' .next s') : XG c B k m s := by
  refine run_ok h hE hO fun a w ⟨hs, M, hX⟩ => hl _ _ _ _ _ ?_
  refine wpList_plain rfl fun K hK => ?_
  have hxv : a.eval x = .func (.func f) #[] ⟨cs⟩ := opd_d hx hE1 a c.N hs rfl
  have key : (execOp a.eval ⟨none, .defer ⟨.value x, #[], tys⟩, ty, ps, af, none⟩).run c.P w = .ok (.defer { target := .fn (.func f) cs.toArray, args := #[] }) w := by
    simp only [execOp, resolve, hxv, Deferred.ofValue, Sem.run_bind, Sem.run_pure, Result.andThen_ok]
    simp
  simp only [Oper.wp, key, Oper.upon_defer]
  refine hK _ _ ?_
  have h1 := post_dfrs hw k' hk _ _ _ (hn a w ⟨hs, M, hX.st, hX.f, hX.le⟩)
  have e : upD (dcl f cs) a = { a with defers := { target := .fn (.func f) cs.toArray, args := #[] } :: a.defers } := by unfold upD; rw [hs.dfr]; rfl
  rw [e] at h1
  exact h1
/-- The results. -/
theorem xresults {P : Program} {T : TT} (hT : TOk P T) {fn : Func} {H : List (Nat × HX)} {Hr : List HO} {w0 w : World} {M0 M : Mem} {L : XE} {a : Act} {N : Nat} {rs : List ResultVar} {vs : List XV} {E2 : List Ck} (hS : St w0 M0 w M (HD H ++ Hr)) (hs : Slots a N L.d) (hr : fn.results = ⟨rs⟩) (hl : resX T H L rs = some (vs, E2)) (hE2 : EOk E2) : (results fn a.tmps).run P w = .ok (valX vs) w := by
  rw [results_eq, hr]
  have h3 := resX_ok hT hS hs hl hE2
  have h4 : ((⟨rs⟩ : Array ResultVar).mapM (resOf a.tmps)).run P w = .ok (vs.map XV.d).toArray w := by
    rw [Array.mapM_eq_mapM_toList]
    refine (Sem.run_bind' P _ _ w).trans ?_
    rw [h3]; rfl
  rw [Sem.run_bind, h4]
  simp only [Result.andThen_ok, Sem.run_pure]
  congr 1
  match vs with
  | [] => rfl
  | [v] => rfl
  | _ :: _ :: _ => simp [valX]
/-- A return behind a defer. -/
theorem xretD {fn : Func} {R : Ending → World → Prop} {ds : List Deferred} {B0 : Exit → Act → World → Prop} (hB : EndsD c.P fn R B0) (h : run c.T c.N k m s = ⟨[], .ret, s', O, E⟩) (hE : EOk E) (hO : O) (hR : ∀ a w M, Slots a c.N s'.L.d → XOk c s'.F s'.H w M → Leaves c.P fn a.tmps R ds .returning w) : XG c (bDs ds B0) k m s :=
  run_ok h hE hO fun a w ⟨h1, M, h2⟩ => hB.all _ _ _ (by
    show Leaves c.P fn a.tmps R (a.defers ++ ds) .returning w
    rw [h1.dfr]; exact hR a w M h1 h2)
theorem EndsD.pan {P : Program} {N : Nat} {L : XE} {fn : Func} {R : Ending → World → Prop} {Q : Exit → Act → World → Prop} {ds : List Deferred} {ch : List PanicEntry} {a : Act} {w : World} (hB : EndsD P fn R Q) (hs : Slots a N L.d) (h : Leaves P fn a.tmps R ds (.panicking ch) w) : bDs ds Q (.panic ch) a w :=
  hB.all _ _ _ (by show Leaves P fn a.tmps R (a.defers ++ ds) _ w; rw [hs.dfr]; exact h)
/-- An end ahead of any defer. -/
theorem EndsD.ends {P : Program} {fn : Func} {R : Ending → World → Prop} {Q : Exit → Act → World → Prop} (hB : EndsD P fn R Q) : Ends P fn R Q := ⟨fun e a w h => hB.all e a w (by
  cases e with
  | normal => obtain ⟨hd, h⟩ := h; show Leaves _ _ _ _ a.defers _ _; rw [hd]; exact h
  | ret => obtain ⟨hd, h⟩ := h; show Leaves _ _ _ _ a.defers _ _; rw [hd]; exact h
  | panic ch => obtain ⟨hd, h⟩ := h; show Leaves _ _ _ _ a.defers _ _; rw [hd]; exact h
  | outgrown => exact h
  | exit id => exact h.elim
  | goto l => exact h.elim)⟩
end
theorem then_wp {P : Program} {o : Oper} {a : Act} {w : World} {K K' : Act → World → Prop} {Q : Exit → Act → World → Prop} (h : o.wp P a w K' Q) : o.wp P a w K' (Exit.then K Q) := by
  unfold Oper.wp at *
  generalize (execOp a.eval o).run P w = r at *
  cases r with
  | ok n w' => cases n <;> first | exact h | (simp only [Oper.upon] at h ⊢; exact h)
  | halt s w' => cases s <;> first | exact h | (simp only [Oper.upon] at h ⊢; exact h)
/-- A deferred closure that begins with recover. -/
theorem xenterS {P : Program} {T : TT} (hT : TOk P T) {f : FuncId} {fn : Func} {id d N : Nat} {o0 : Oper} {l : List Oper} {y : Code} {u : FrameMode} {w0 w : World} {M0 M : Mem} {Hr : List HO} {S : World → Prop} (hf : P.funcs[f]? = some fn) (hb : fn.body = some (.seq (.region id (o0 :: l).toArray false) y)) (hn : fn.ntmps = N)
    (hres : fn.results = #[]) (hg : o0.guard = none) (hd : o0.dst = some d) (hdN : Nat.blt d N = true) (hrun : ∀ (a : Act) w, (execOp a.eval o0).run P w = .ok .recover w) (F : List (Nat × Kn)) (H : List (Nat × HX)) (rv : XV) (vs : List XV) (hrv : rv.d = (recMode u).1) (hl : Nat.ble vs.length N = true) (hS : St w0 M0 w M (HD H ++ Hr)) (hF : FOk M F)
    (h : ∀ B, (∀ a w', a.defers = [] → S w' → B .normal a w') → XG ⟨P, N, w0, M0, M, Hr, T, hT, .wide P⟩ B [.seq y] (.ops (o0 :: l).toArray l) ⟨F, H, (d, .t, rv) :: xargs 0 vs⟩) {av : List Value} (ha : vs.map XV.d = av) :
    CallsD P f av.toArray u w (fun e u' w' => e = .returned (.tuple #[]) ∧ u' = (recMode u).2 ∧ S w') := by
  subst ha
  refine enterS hf hb hn (by rw [List.length_map]; exact Nat.le_of_ble_eq_true hl) hres hg hd hdN hrun fun K Q hK hQ a hs => ?_
  have h1 := h Q hQ a w ⟨by
    show Slots a N ((d, true, rv.d) :: XE.d (xargs 0 vs))
    rw [xargs_d, hrv]; exact hs, M, hS, hF, Mem.le.refl _⟩
  have mono : ∀ (l' : List Oper) (a : Act) (w : World), wpList P (o0 :: l).toArray (Exit.then (y.wp P Q) Q) l' a w → wpList P (o0 :: l).toArray (Exit.then K Q) l' a w := by
    intro l'
    induction l' with
    | nil => intro a w h; exact hK _ _ h
    | cons o l' ih =>
      intro a w h
      unfold wpList at h ⊢
      split at h <;> rename_i hw
      · rw [if_pos hw]
        rcases h with h | ⟨ha, a2, w2, h2⟩
        · refine .inl ?_
          have h3 := wp_then h
          have h4 := Oper.wp_mono (fun a w hh => ih a w hh) h3
          exact then_wp h4
        · exact .inr ⟨ha, a2, w2, h2⟩
      · rw [if_neg hw]; exact ih _ _ h
  exact mono l a w h1
theorem xendS {c : Cx} {B : Exit → Act → World → Prop} {k : List Fr} {m : Md} {s s' : XS} {O : Prop} {E : List Ck} {S : World → Prop} (hB : ∀ a w', a.defers = [] → S w' → B .normal a w') (h : run c.T c.N k m s = ⟨[], .next, s', O, E⟩) (hE : EOk E) (hO : O) (hR : ∀ w M, XOk c s'.F s'.H w M → S w) : XG c B k m s :=
  run_ok h hE hO fun a w ⟨h1, M, h2⟩ => hB a w h1.dfr (hR w M h2)
end Go.Eng
