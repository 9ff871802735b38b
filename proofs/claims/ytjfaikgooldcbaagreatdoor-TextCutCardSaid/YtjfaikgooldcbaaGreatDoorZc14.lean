/-
  A map from texts to slices, against the pairs that it holds. No program in it.
  slices.Grow of the nil slice of nodes: its walk is turned from the kit's (SlicesGrow), to this program's body.
  A map ranged over: what has been visited; a map's keys. No program in it.
  What is unquoted is valid UTF-8. No program in it. (The same lemmas stand in XBack.)
-/
import Derived.Test.YtjfaikgooldcbaaGreatDoorZc13
import Derived.Test.YtjfaikgooldcbaaGreatDoorZc8
import Derived.Test.YtjfaikgooldcbaaGreatDoorZc5
import Derived.Laws.BitsLemmas
import Derived.Test.YtjfaikgooldcbaaGreatDoorZc3
import Derived.Test.YtjfaikgooldcbaaGreatDoorProg
import Derived.Shelf.Spec.SlicesGrow
set_option linter.unusedVariables false
set_option linter.unusedSimpArgs false
namespace Go.Eng
open Go.RowKit

def MapV (M : Mem) : List SV → List (Str × Vl) → Prop
  | [], [] => True
  | p :: l, q :: m => p.key = q.1 ∧ (∃ h : SlH, p.val = h.v ∧ Sl M 6 q.2.length h.v (q.2.flatMap Nd.cells)) ∧ MapV M l m
  | _, _ => False
/-- Births: all before the clock, none twice. -/
def BornOK (l : List SV) (c : Nat) : Prop := (∀ p ∈ l, p.born < c) ∧ (l.map (·.born)).Nodup
theorem MapV.mono {M M' : Mem} (hm : M.le M') : ∀ {l : List SV} {m : List (Str × Vl)}, MapV M l m → MapV M' l m
  | [], [], _ => trivial
  | _ :: _, _ :: _, ⟨h1, ⟨h, h2, h3⟩, h4⟩ => ⟨h1, ⟨h, h2, h3.mono hm⟩, MapV.mono hm h4⟩
  | [], _ :: _, h => h.elim
  | _ :: _, [], h => h.elim
theorem sput_map {M : Mem} {n : Str} {x : Vl} {h : SlH} (hx : Sl M 6 x.length h.v (x.flatMap Nd.cells)) : ∀ {l : List SV} {m : List (Str × Vl)}, MapV M l m →
    (∃ l', sput l n h.v = some l' ∧ MapV M l' (putV m n x) ∧ l'.map (·.born) = l.map (·.born)) ∨ (sput l n h.v = none ∧ putV m n x = m ++ [(n, x)])
  | [], [], _ => .inr ⟨rfl, rfl⟩
  | [], _ :: _, h => h.elim
  | _ :: _, [], h => h.elim
  | p :: l, q :: m, ⟨h1, h2, h4⟩ => by
    unfold sput putV
    by_cases hk : (n == p.key) = true
    · rw [if_pos hk, if_pos (by rw [← h1]; exact hk)]
      exact .inl ⟨_, rfl, ⟨rfl, ⟨h, rfl, hx⟩, h4⟩, rfl⟩
    · rw [if_neg hk, if_neg (by rw [← h1]; exact hk)]
      rcases sput_map (n := n) hx h4 with ⟨l', e1, e2, e3⟩ | ⟨e1, e2⟩
      · exact .inl ⟨p :: l', by rw [e1]; rfl, ⟨h1, h2, e2⟩, by simp [e3]⟩
      · exact .inr ⟨by rw [e1]; rfl, by rw [e2]; rfl⟩
theorem MapV.snoc {M : Mem} {n : Str} {x : Vl} {h : SlH} {c : Nat} (hx : Sl M 6 x.length h.v (x.flatMap Nd.cells)) : ∀ {l : List SV} {m : List (Str × Vl)}, MapV M l m → MapV M (l ++ [⟨n, h.v, c⟩]) (m ++ [(n, x)])
  | [], [], _ => ⟨rfl, ⟨h, rfl, hx⟩, trivial⟩
  | [], _ :: _, h => h.elim
  | _ :: _, [], h => h.elim
  | _ :: _, _ :: _, ⟨h1, h2, h4⟩ => ⟨h1, h2, MapV.snoc hx h4⟩
theorem MapV.put {M : Mem} {n : Str} {x : Vl} {h : SlH} {c : Nat} {l : List SV} {m : List (Str × Vl)} (hm : MapV M l m) (hx : Sl M 6 x.length h.v (x.flatMap Nd.cells)) : MapV M (sset l c n h.v) (putV m n x) := by
  unfold sset
  rcases sput_map (n := n) hx hm with ⟨l', e1, e2, e3⟩ | ⟨e1, e2⟩
  · rw [e1]; exact e2
  · rw [e1, e2]; exact hm.snoc hx
theorem BornOK.put {M : Mem} {n : Str} {x : Vl} {h : SlH} {c : Nat} {l : List SV} {m : List (Str × Vl)} (hb : BornOK l c) (hm : MapV M l m) (hx : Sl M 6 x.length h.v (x.flatMap Nd.cells)) : BornOK (sset l c n h.v) (sclk l c n h.v) := by
  unfold sset sclk
  rcases sput_map (n := n) hx hm with ⟨l', e1, e2, e3⟩ | ⟨e1, e2⟩
  · rw [e1]
    refine ⟨fun p hp => ?_, by rw [e3]; exact hb.2⟩
    have : p.born ∈ l.map (·.born) := e3 ▸ List.mem_map.2 ⟨p, hp, rfl⟩
    obtain ⟨q, hq, e⟩ := List.mem_map.1 this
    dsimp only; rw [← e]; exact hb.1 q hq
  · rw [e1]
    refine ⟨fun p hp => ?_, ?_⟩
    · rcases List.mem_append.1 hp with hp | hp
      · have := hb.1 p hp; dsimp only; omega
      · simp only [List.mem_singleton] at hp; subst hp; dsimp only; omega
    · dsimp only
      rw [List.map_append, List.nodup_append]
      refine ⟨hb.2, by simp, fun a ha b hb' => ?_⟩
      obtain ⟨q, hq, rfl⟩ := List.mem_map.1 ha
      simp at hb'
      have := hb.1 q hq
      omega
theorem MapV.mem {M : Mem} {p : SV} : ∀ {l : List SV} {m : List (Str × Vl)}, MapV M l m → p ∈ l → ∃ pk ph pb px, p = ⟨pk, SlH.v ph, pb⟩ ∧ (pk, px) ∈ m ∧ Sl M 6 (List.length (α := Nd) px) ph.v (px.flatMap Nd.cells)
  | [], _, _, h => by cases h
  | _ :: _, [], h, _ => h.elim
  | q :: l, r :: m, ⟨h1, ⟨h, h2, h3⟩, h4⟩, hp => by
    rcases List.mem_cons.1 hp with rfl | hp
    · obtain ⟨k, v, b⟩ := p
      dsimp only at h1 h2
      subst h1; subst h2
      exact ⟨_, h, b, r.2, rfl, List.mem_cons_self, h3⟩
    · obtain ⟨pk, ph, pb, px, e1, e2, e3⟩ := MapV.mem h4 hp
      exact ⟨pk, ph, pb, px, e1, List.mem_cons_of_mem _ e2, e3⟩
/-- How many nodes all of the values have. -/
def mapN (m : List (Str × Vl)) : Int := len (m.map (·.2)).flatten
theorem putV_n (n : Str) (x : Vl) : ∀ m : List (Str × Vl), mapN (putV m n x) ≤ mapN m + len x ∧ len (putV m n x) ≤ len m + 1
  | [] => ⟨by simp [mapN, putV, len], by simp [putV, len]⟩
  | p :: m => by
    have ih := putV_n n x m
    unfold putV
    split
    · refine ⟨?_, by unfold len; simp only [List.length_cons]; omega⟩
      unfold mapN; simp only [List.map_cons, List.flatten_cons, len_app]; have := len_nonneg p.2; omega
    · unfold mapN at *; simp only [List.map_cons, List.flatten_cons, len_app, len_cons]; exact ⟨by omega, by omega⟩
end Go.Eng
set_option maxRecDepth 100000
namespace Go.Proofs.YtjfaikgooldcbaaGreatDoor
open Go.Eng

/- (*loupe/text.parser).object$1 -/
theorem objpart_c {w wv : World} {M0 M : Mem} {Rs : List HO} (s : Str) (i d i0 : Int) (pb b2 b3 bm mb : Nat) (l : List SV) (c0 : Nat) (mp : List (Str × Vl)) (f : Nat) (hS : St w M0 wv M (.box pb [(str s), (i64 i)] 55 :: .box b2 [(.pointer (some ⟨pb, 0, none⟩))] 53 :: .box b3 [(i64 d)] 3 :: .box bm [(.map (some mb))] 106 :: .raw mb (smobj l c0) :: Rs)) (hmap : MapV M l mp) (hbo : BornOK l c0) (hlx : len mp ≤ i ∧ mapN mp + 1 ≤ i - i0) (h0 : 0 ≤ i) (h1 : i ≤ len s) (hb : len s ≤ 1099511627776) (hg : Gl w) (hd : 0 ≤ d ∧ d ≤ 900) (hf : 2 * (len s - i) + 1 ≤ f) (hval : ValOK w M0 s pb f) :
  Calls Tryz.prog 75 [(.pointer (some ⟨b2, 0, none⟩)), (.pointer (some ⟨b3, 0, none⟩)), (.pointer (some ⟨bm, 0, none⟩))].toArray wv fun e w' => PPost w M0 M Rs 51 (fun x j v M' w' => i + 1 ≤ j ∧ j ≤ len s ∧ (len x ≤ j ∧ mapN x + 1 ≤ j - i0) ∧ ∃ l2 c2, MapV M' l2 x ∧ BornOK l2 c2 ∧ St w M0 w' M' (.box pb [str s, i64 j] 55 :: .box b2 [.pointer (some ⟨pb, 0, none⟩)] 53 :: .box b3 [i64 d] 3 :: .box bm [.map (some mb)] 106 :: .raw mb (smobj l2 c2) :: Rs)) (pairT s i (fun k => valT f s k (d + 1)) mp) e w' := by
 refine CW.enter1 Tryz.func75 rfl Tryz.ntmps75 (Nat.le_of_ble_eq_true rfl) fun Q hE => ?_
 refine CW.weaken [0, 1, 2] (L' := [Y 0 (.pointer (some ⟨b2, 0, none⟩)), Y 1 (.pointer (some ⟨b3, 0, none⟩)), Y 2 (.pointer (some ⟨bm, 0, none⟩))]) ?_ rfl
 refine CW.sr (RL.u (.loadB1 (v := (.pointer (some ⟨pb, 0, none⟩))) hS extEq (i := 1) rfl (.t rfl) Tryz.isAgg53 rfl) rfl ?_)
 refine RL.callR Tryz.call42 (.cons (.t rfl) .nil) (text_c (Rs := (.box b2 [(.pointer (some ⟨pb, 0, none⟩))] 53 :: .box b3 [(i64 d)] 3 :: .box bm [(.map (some mb))] 106 :: .raw mb (smobj l c0) :: Rs)) s i pb hS (by omega) (by omega) hb hg) rfl (fun ec p M10 w11 hr14 hS12 hle13 => ?_) (fun x1 j2 v3 M5 w4 hr6 hF9 hle8 => ?_)
 ·replace hS12 := hS12.drop Rs (List.sublist_append_right [_, _, _, _] _)
  exact hE.p (PPost.er (by rw [pairT_txt1 hr14]) hS12 hle13)
 obtain ⟨rfl, hF9a, hF9b, hS7⟩ := hF9
 replace hmap := hmap.mono hle8
 refine RL.a rfl rfl ?_
 refine RL.nil (CW.at [Y 0 (.pointer (some ⟨b2, 0, none⟩)), Y 1 (.pointer (some ⟨b3, 0, none⟩)), Y 2 (.pointer (some ⟨bm, 0, none⟩)), Y 3 (str x1)] rfl (CW.sr (RL.u (.loadB1 (v := (.pointer (some ⟨pb, 0, none⟩))) hS7 extEq (i := 1) rfl (.t rfl) Tryz.isAgg53 rfl) rfl ?_)))
 replace hS7 := hS7.front 0 rfl rfl
 refine RL.callP Tryz.call26 (.cons (.t rfl) .nil) (blankP_c (Rs := (.box b2 [(.pointer (some ⟨pb, 0, none⟩))] 53 :: .box b3 [(i64 d)] 3 :: .box bm [(.map (some mb))] 106 :: .raw mb (smobj l c0) :: Rs)) s j2 pb hS7 (by omega) (by omega) hb) rfl ?_
 rintro v16 w17 ⟨⟨ha15a, ha15b⟩, hS19⟩
 refine RL.nil (CW.at [Y 0 (.pointer (some ⟨b2, 0, none⟩)), Y 1 (.pointer (some ⟨b3, 0, none⟩)), Y 2 (.pointer (some ⟨bm, 0, none⟩)), Y 3 (str x1)] rfl (CW.seq (CW.sr (RL.u (.loadB1 (v := (.pointer (some ⟨pb, 0, none⟩))) hS19 extEq (i := 1) rfl (.t rfl) Tryz.isAgg53 rfl) rfl ?_))))
 replace hS19 := hS19.front 0 rfl rfl
 refine RL.callP Tryz.call41 (.cons (.t rfl) (.cons .c .nil)) (isP_c (Rs := (.box b2 [(.pointer (some ⟨pb, 0, none⟩))] 53 :: .box b3 [(i64 d)] 3 :: .box bm [(.map (some mb))] 106 :: .raw mb (smobj l c0) :: Rs)) s [58] (blankTo s j2) pb hS19 (by omega) (by omega) hb) rfl ?_
 rintro v23 w24 ⟨q21, c22, hc22, hq21a, hq21b, hc22y, hc22n, rfl, hS26⟩
 refine RL.u (.not (.t rfl)) rfl ?_
 refine RL.nil (CW.at [Y 0 (.pointer (some ⟨b2, 0, none⟩)), Y 1 (.pointer (some ⟨b3, 0, none⟩)), Y 2 (.pointer (some ⟨bm, 0, none⟩)), Y 3 (str x1), Y 10 (.bool (!c22))] rfl ?_)
 refine CW.cond rfl ?_ ?_ <;> intro hb1 <;> try simp only [zb] at hb1
 ·refine CW.regionT 5 hS26 tryz_mixed (by decide +kernel) (fun w28 hS29 => ?_)
  refine RS.v .none (.loadB1 (v := (.pointer (some ⟨pb, 0, none⟩))) hS29 extEq (i := 1) rfl (.t rfl) Tryz.isAgg53 rfl) rfl ?_
  refine RS.v .none (.loadB1 (v := (.pointer (some ⟨pb, 0, none⟩))) hS29 extEq (i := 1) rfl (.t rfl) Tryz.isAgg53 rfl) rfl ?_
  refine RS.v .none (.nilP (.t rfl)) rfl ?_
  refine RS.v .none (.fldA (q := ⟨pb, 1, none⟩) (.t rfl) (fun w => by kernel_rfl)) rfl ?_
  refine RS.v .none (.loadB1 (v := (i64 q21)) hS29 extEq (i := 0) rfl (.t rfl) Tryz.isAgg3 rfl) rfl ?_
  refine RS.nil ?_
  refine RL.callF Tryz.call28 (.cons (.t rfl) (.cons .c (.cons (.t rfl) .nil))) (fail_c 1 q21 (.pointer (some ⟨pb, 0, none⟩)) _) ?_
  replace hS29 := hS29.drop Rs (List.sublist_append_right [_, _, _, _, _] _)
  exact hE.p (PPost.er (by rw [hc22n hb1]; exact pairT_bad hr6 (hc22.symm.trans hb1)) hS29 hle8)
 ·have hz1 := hc22y hb1
  rw [show len ([58] : Str) = 1 from rfl] at hz1
  have hc22y2 := congrArg (fun z => valT f s (blankTo s z) (d + 1)) hz1
  refine CW.skip (CW.at [Y 0 (.pointer (some ⟨b2, 0, none⟩)), Y 1 (.pointer (some ⟨b3, 0, none⟩)), Y 2 (.pointer (some ⟨bm, 0, none⟩)), Y 3 (str x1)] rfl (CW.sr (RL.u (.loadB1 (v := (.pointer (some ⟨pb, 0, none⟩))) hS26 extEq (i := 1) rfl (.t rfl) Tryz.isAgg53 rfl) rfl ?_)))
  replace hS26 := hS26.front 0 rfl rfl
  refine RL.callP Tryz.call26 (.cons (.t rfl) .nil) (blankP_c (Rs := (.box b2 [(.pointer (some ⟨pb, 0, none⟩))] 53 :: .box b3 [(i64 d)] 3 :: .box bm [(.map (some mb))] 106 :: .raw mb (smobj l c0) :: Rs)) s q21 pb hS26 (by omega) (by omega) hb) rfl ?_
  rintro v31 w32 ⟨⟨ha30a, ha30b⟩, hS34⟩
  refine RL.nil (CW.at [Y 0 (.pointer (some ⟨b2, 0, none⟩)), Y 1 (.pointer (some ⟨b3, 0, none⟩)), Y 2 (.pointer (some ⟨bm, 0, none⟩)), Y 3 (str x1)] rfl (CW.weaken [0, 1, 2, 3] (L' := [Y 0 (.pointer (some ⟨b2, 0, none⟩)), Y 1 (.pointer (some ⟨b3, 0, none⟩)), Y 2 (.pointer (some ⟨bm, 0, none⟩)), Y 3 (str x1)]) ?_ rfl))
  replace hS34 := (hS34.front 4 rfl rfl).front 4 rfl rfl
  replace hS34 := (hS34.front 4 rfl rfl).front 4 rfl rfl
  refine CW.regionG (HsQ := [.box b2 [(.pointer (some ⟨pb, 0, none⟩))] 53, .box b3 [(i64 d)] 3, .box bm [(.map (some mb))] 106, .raw mb (smobj l c0)]) 6 [.is true (.map (some mb)), .is true (str x1), .is true (.pointer (some ⟨pb, 0, none⟩)), .is true (i64 d), .is true (i64 (d + 1)), .any, .any] [(24, ⟨fun vz M X => ∃ x38 j39 a36 c37, valT f s (blankTo s q21) (d + 1) = .ok x38 j39 ∧ (blankTo s q21) + 1 ≤ j39 ∧ j39 ≤ len s ∧ len x38 ≤ j39 - (blankTo s q21) ∧ Sl M 6 x38.length (.slice a36 x38.length c37) (x38.flatMap Nd.cells) ∧ vz = (.slice a36 x38.length c37) ∧ X = (.box pb [(str s), (i64 j39)] 55 :: Rs), fun hm h => by obtain ⟨x38, j39, a36, c37, hr43, hF46a, hF46b, hF46c, hsl_v40, hvz, e⟩ := h; exact ⟨x38, j39, a36, c37, hr43, hF46a, hF46b, hF46c, hsl_v40.mono hm, hvz, e⟩⟩)] (.box pb [(str s), (i64 (blankTo s q21))] 55 :: Rs) [none, none, none, none, none, some 0] hS34 tryz_mixed [0, 1, 2, 3] rfl (by decide +kernel) (by decide +kernel) rfl rfl (by decide +kernel) (by decide +kernel) [24] rfl (by decide +kernel) (.cons ?_ (.cons ?_ (.cons ?_ (.cons ?_ (.cons ?_ (.cons ?_ (.cons ?_ (.nil))))))))
  ·intro LL w36 M37 X hle39 hS38 hK hD
   replace hmap := hmap.mono hle39
   refine RL.u (.loadB1 (v := (.map (some mb))) hS38 extEq (i := 2) rfl (.t (hK _ _ rfl)) Tryz.isAgg106 rfl) rfl ?_
   exact RL.nil (RA.next fun a hs => ⟨_, _, Mem.le.refl _, hS38, hs, _, _, rfl, rfl, rfl⟩)
  ·intro LL w40 M41 X hle43 hS42 hK hD
   replace hmap := hmap.mono hle43
   refine RL.u (.move (.t (hK _ _ rfl))) rfl ?_
   exact RL.nil (RA.next fun a hs => ⟨_, _, Mem.le.refl _, hS42, hs, _, _, rfl, rfl, rfl⟩)
  ·intro LL w44 M45 X hle47 hS46 hK hD
   replace hmap := hmap.mono hle47
   refine RL.u (.loadB1 (v := (.pointer (some ⟨pb, 0, none⟩))) hS46 extEq (i := 0) rfl (.t (hK _ _ rfl)) Tryz.isAgg53 rfl) rfl ?_
   exact RL.nil (RA.next fun a hs => ⟨_, _, Mem.le.refl _, hS46, hs, _, _, rfl, rfl, rfl⟩)
  ·intro LL w48 M49 X hle51 hS50 hK hD
   replace hmap := hmap.mono hle51
   refine RL.u (.loadB1 (v := (i64 d)) hS50 extEq (i := 1) rfl (.t (hK _ _ rfl)) Tryz.isAgg3 rfl) rfl ?_
   exact RL.nil (RA.next fun a hs => ⟨_, _, Mem.le.refl _, hS50, hs, _, _, rfl, rfl, rfl⟩)
  ·intro LL w52 M53 X hle55 hS54 hK hD
   replace hmap := hmap.mono hle55
   obtain ⟨g22, v22, hl22, rfl, rfl⟩ := hD 3 (by decide +kernel)
   refine RL.u (.add (.t hl22) .c (fun _ => by omega)) rfl ?_
   exact RL.nil (RA.next fun a hs => ⟨_, _, Mem.le.refl _, hS54, hs, _, _, rfl, rfl, rfl⟩)
  ·intro LL w56 M57 X hle59 hS58 hK hD hX
   replace hmap := hmap.mono hle59
   obtain rfl : (.box pb [(str s), (i64 (blankTo s q21))] 55 :: Rs) = X := Eq.symm hX
   obtain ⟨g21, v21, hl21, rfl, rfl⟩ := hD 2 (by decide +kernel)
   obtain ⟨g23, v23, hl23, rfl, rfl⟩ := hD 4 (by decide +kernel)
   replace hS58 := hS58.front 4 rfl rfl
   refine RL.callR Tryz.call27 (.cons (.t hl21) (.cons (.t hl23) .nil)) (hval (Rs := (.box b2 [(.pointer (some ⟨pb, 0, none⟩))] 53 :: .box b3 [(i64 d)] 3 :: .box bm [(.map (some mb))] 106 :: .raw mb (smobj l c0) :: Rs)) (blankTo s q21) (d + 1) hS58 (by omega) (by omega) (by omega) (by omega) (by omega)) rfl (fun ec p M71 w72 hr75 hS73 hle74 => ?_) (fun x62 j63 v64 M66 w65 hr67 hF70 hle69 => ?_)
   ·replace hS73 := hS73.drop Rs (List.sublist_append_right [_, _, _, _] _)
    exact hE.p (PPost.er (by rw [pairT_val hr6 (hc22.symm.trans hb1)]; show mapR _ _ = _; rw [← hc22y2, hr75]; rfl) hS73 ((hle8.trans hle59).trans hle74))
   obtain ⟨a60, c61, rfl, hF70a, hF70b, hF70c, hsl_v64, hS68⟩ := hF70
   replace hmap := hmap.mono hle69
   replace hS68 := (hS68.front 4 rfl rfl).front 4 rfl rfl
   replace hS68 := (hS68.front 4 rfl rfl).front 4 rfl rfl
   exact RL.nil (RA.next fun a hs => ⟨_, _, (.box pb [(str s), (i64 j63)] 55 :: Rs), hle69, hS68, hs, ⟨_, _, rfl, trivial⟩, ⟨_, rfl, x62, j63, a60, c61, hr67, hF70a, hF70b, hF70c, hsl_v64, rfl, rfl⟩⟩)
  ·intro LL w76 M77 X hle79 hS78 hK hD hX
   replace hmap := hmap.mono hle79
   obtain ⟨vx80, hl24, x38, j39, a36, c37, hr43, hF46a, hF46b, hF46c, hsl_v40, rfl, rfl⟩ := hX
   obtain ⟨g19, v19, hl19, rfl, rfl⟩ := hD 0 (by decide)
   obtain ⟨g20, v20, hl20, rfl, rfl⟩ := hD 1 (by decide)
   refine RL.smapUpdate false hS78 (i := 3) rfl (.t hl19) (.t hl20) (.t hl24) Tryz.underlying106 Tryz.underlying9 rfl rfl rfl (fun w81 hS82 => ?_)
   refine RL.nil (slots_sub (E := [Y 0 (.pointer (some ⟨b2, 0, none⟩)), Y 1 (.pointer (some ⟨b3, 0, none⟩)), Y 2 (.pointer (some ⟨bm, 0, none⟩)), Y 3 (str x1)]) (.cons (hK _ _ rfl) (.cons (hK _ _ rfl) (.cons (hK _ _ rfl) (.cons (hK _ _ rfl) .nil)))) ?_)
   replace hS82 := (hS82.front 3 rfl rfl).front 3 rfl rfl
   replace hS82 := (hS82.front 3 rfl rfl).front 3 rfl rfl
   replace hS82 := hS82.front 4 rfl rfl
   refine  (hE.e0 rfl ?_)
   have hpn := putV_n x1 x38 mp
   exact PPost.ok (show (pairT s i (fun k => valT f s k (d + 1)) mp) = _ from by rw [pairT_val hr6 (hc22.symm.trans hb1)]; show mapR _ _ = _; rw [← hc22y2, hr43]; rfl) ⟨by omega, by omega, by omega, _, _, hmap.put (h := ⟨a36, _, c37⟩) hsl_v40, hbo.put (h := ⟨a36, _, c37⟩) hmap hsl_v40, hS82⟩ (hle8.trans hle79)

end Go.Proofs.YtjfaikgooldcbaaGreatDoor
namespace Go.Eng
open Go.RowKit
theorem St.newSpare {w0 w : World} {M0 M : Mem} {Hs : List HO} (h : St w0 M0 w M Hs) (e : TypeId) (sz cap : Nat) (cur : Array Value) (hc : cur.size = cap * sz) (hm : cap ≤ maxLen) :
    St w0 M0 (w.alloc (.cells cur e)) M (.own e sz (.slice (some ⟨w.heap.size, 0, none⟩) 0 cap) 0 [] :: Hs) := by
  have h1 := h.ext (Ext.alloc w (.cells cur e))
  refine ⟨h1.low, h1.sat, h1.old, fun x hx => ?_, List.pairwise_cons.2 ⟨fun y hy b hb => ?_, h.apart⟩⟩
  · rcases List.mem_cons.1 hx with rfl | hx
    · refine ⟨⟨by simp, .inr ⟨w.heap.size, cap, cur, rfl, h.size, heap_alloc_new _ _, Nat.zero_le _, hm, hc, by simp⟩⟩, fun b hb => ?_⟩
      simp only [Value.ownBlock, Option.some.injEq] at hb; subst hb
      exact ⟨fun o ho => by simp at ho, fun o _ => h.none_of_new (Nat.le_refl _) o⟩
    · exact h1.ok x hx
  · simp only [HO.blk, Value.ownBlock, Option.some.injEq] at hb; subst hb
    intro hy'
    have := (HO.ok.lt (h.ok y hy) hy').2
    omega
end Go.Eng
namespace Go.Proofs.YtjfaikgooldcbaaGreatDoor
open Go.Eng Go.RowKit

set_option maxHeartbeats 1000000 in
set_option maxRecDepth 100000 in
theorem grow_none (w : World) : Calls Tryz.prog 131 #[.slice none 0 0, .int .i64 0] w fun e w' => e = .returned (.slice none 0 0) ∧ w' = w := by
  have mixed : Tryz.prog.follows .mixedOrders = true := by kernel_rfl
  go_enter Tryz.func131, Tryz.ntmps131
  go_wp2
  all_goals (go_ret; exact ⟨rfl, rfl⟩)
set_option maxHeartbeats 4000000 in
set_option maxRecDepth 100000 in
theorem grow_some (n : Nat) (w : World) (h0 : 0 < n) (hbig : n * 64 ≤ 140737488355328) : Calls Tryz.prog 131 #[.slice none 0 0, .int .i64 n] w fun e w' =>
    ∃ cap cur, e = .returned (.slice (some ⟨w.heap.size, 0, none⟩) 0 cap) ∧ cap ≤ maxLen ∧ cur.size = cap * 6 ∧ w' = w.drew.alloc (.cells cur 38) := by
  obtain ⟨i0, hi0, hz0, hs6, hb64⟩ : ∃ i, Tryz.prog.info? 38 = some i ∧ i.zero.isSome = true ∧ i.size = 6 ∧ i.bytes = 64 := by
    obtain ⟨i, hi, he⟩ := Option.map_eq_some_iff.1 (show (Tryz.prog.info? 38).map (fun i => (i.zero.isSome, i.size, i.bytes)) = some (true, 6, 64) by kernel_rfl)
    exact ⟨i, hi, by simpa using congrArg (·.1) he, by simpa using congrArg (·.2.1) he, by simpa using congrArg (·.2.2) he⟩
  obtain ⟨z, hz⟩ := Option.isSome_iff_exists.1 hz0
  have hzc : z.cells.size = 6 := by
    have := show (Tryz.prog.info? 38).bind (fun i => i.zero.map (fun z => z.cells.size)) = some 6 by kernel_rfl
    rw [hi0] at this; simp only [Option.bind_some, hz, Option.map_some, Option.some.injEq] at this; exact this
  have mixed : Tryz.prog.follows .mixedOrders = true := by kernel_rfl
  have us := fun w => run_underlying (P := Tryz.prog) (w := w) Tryz.underlying24
  have ui := fun w => run_underlying (P := Tryz.prog) (w := w) Tryz.underlying3
  have h1 : ¬ ((n : Int) < 0) := by omega
  have h3 : wrap64 ((n : Int) - 0) = (n : Int) := by unfold wrap64; omega
  have h4 : (n : Int) > 0 := by omega
  have hold : (Builtin.firstCells i0.size 0 (.slice none 0 0)).run Tryz.prog w.drew = .ok #[] w.drew := run_firstCells_none w.drew i0.size 0 0 0
  have hrz : ∀ ty, (Builtin.append_ #[24, 3] ty #[.slice none 0 0, .int .i64 (n : Int)]).run Tryz.prog w =
      .ok (.slice (some ⟨w.heap.size, 0, none⟩) n (grownCap w n 0 38)) (w.drew.alloc (.cells (#[] ++ Builtin.zeroCells z.cells n ++ Builtin.zeroCells z.cells (grownCap w n 0 38 - n)) 38)) := fun ty => by
    have h := Lib.run_append_grow_zeros w 24 3 ty 38 i0 z .i64 .i64 Tryz.underlying24 Tryz.underlying3 hi0 hz none 0 0 [] hold n (by omega) (by omega) (by omega) (by omega)
      (by rw [hb64]; omega) (by rw [Nat.zero_add]; exact growslice_fits h0 (by rw [hb64]; omega))
    rw [Nat.zero_add] at h
    exact h
  have hGn : n ≤ grownCap w n 0 38 := grownCap_ge w _ _ _
  have hGm : grownCap w n 0 38 ≤ maxLen := grownCap_le_maxLen w n 0 38 (by unfold maxLen; omega)
  obtain ⟨G, hG⟩ : ∃ G, G = grownCap w n 0 38 := ⟨_, rfl⟩
  rw [← hG] at hrz hGn hGm
  have hG63 : G ≤ 9223372036854775807 := by unfold maxLen at hGm; omega
  have hzs : ∀ k, (Builtin.zeroCells z.cells k).size = k * 6 := fun k => by simp [Builtin.zeroCells, hzc]
  have hsz : (#[] ++ Builtin.zeroCells z.cells n ++ Builtin.zeroCells z.cells (G - n)).size = G * 6 := by rw [Array.size_append, Array.size_append, hzs, hzs]; simp; omega
  generalize (#[] ++ Builtin.zeroCells z.cells n ++ Builtin.zeroCells z.cells (G - n)) = cur at hrz hsz
  clear hold hG hi0
  go_enter Tryz.func131, Tryz.ntmps131
  go_wp2_with (at_builtin; refine Lib.wpList_append_run _ rfl _ _ _ _ rfl _ _ rfl rfl _ _ (hrz _) ?_)
  all_goals (go_ret; exact ⟨G, rfl, hGm, _, hsz, rfl⟩)
theorem grow_c {w wv : World} {M0 M : Mem} {Hs : List HO} (n : Int) (hS : St w M0 wv M Hs) (h0 : 0 ≤ n) (hb : n ≤ 1099511627776) :
    Calls Tryz.prog 131 [.slice none 0 0, i64 n].toArray wv fun e w' => ∃ u, e = .returned u ∧ St w M0 w' M (.own 38 6 u 0 [] :: Hs) := by
  by_cases hn : n = 0
  · subst hn
    exact (grow_none wv).mono fun e w' ⟨he, hw⟩ => ⟨_, he, hw ▸ hS.ownNil _ _⟩
  · have hg := grow_some n.toNat wv (by omega) (by omega)
    rw [show ((n.toNat : Nat) : Int) = n from by omega] at hg
    refine hg.mono fun e w' ⟨cap, cur, he, hc, hs, hw⟩ => ⟨_, he, ?_⟩
    subst hw
    exact (hS.ext (Ext.drew wv)).newSpare _ 6 cap cur hs hc
end Go.Proofs.YtjfaikgooldcbaaGreatDoor
set_option maxRecDepth 100000
namespace Go.Proofs.YtjfaikgooldcbaaGreatDoor
open Go.Eng

/- slices.Concat[loupe/api.Val,loupe/api.Node] -/
theorem concat_c {w wv : World} {M0 M : Mem} {Rs : List HO} (rs : List SlH) (xs : List Vl) (va : Value) (hS : St w M0 wv M Rs) (ha : Sl M 1 rs.length va (rs.flatMap valI)) (hrow : RowsV M 6 Nd.cells rs xs) (hbd : len xs.flatten ≤ 1099511627776) :
  Calls Tryz.prog 102 [va].toArray wv fun e w' => ∃ u, e = .returned u ∧ ∃ M', Sl M' 6 xs.flatten.length u (xs.flatten.flatMap Nd.cells) ∧ St w M0 w' M' Rs ∧ M.le M' := by
 refine CW.enter1 Tryz.func102 rfl Tryz.ntmps102 (Nat.le_of_ble_eq_true rfl) fun Q hE => ?_
 have hrl : len rs = len xs := by unfold len; rw [hrow.len]
 have hle9 : len rs ≤ 9223372036854775807 := ha.le
 have hn0 := len_nonneg rs
 refine CW.weaken [0] (L' := [Y 0 va]) ?_ rfl
 refine CW.sr ?_
 have hS1 := hS.ownNil 38 6
 refine RL.u (.assign .c) rfl (RL.nil (CW.id ?_))
 refine CW.sr (RL.u (.assign .c) rfl (RL.nil (CW.id (CW.seq ?_))))
 refine CW.sr (RL.m rfl rfl (RL.u (.lenT ha (.t rfl) ⟨_, Tryz.underlying47⟩) rfl (RL.u (.move .c) rfl (RL.nil (CW.id (CW.block ?_))))))
 refine CW.loop (σ := Int × Int) (fun (k, q) => [Y 0 va, Y 3 (i64 q), Y 9 va, Y 10 (i64 (len rs)), Y 11 (i64 k)]) (fun (k, q) wl => St w M0 wl M (.own 38 6 (.slice none 0 0) (([] : List Nd)).length ((([] : List Nd)).flatMap Nd.cells) :: Rs) ∧ Sl M 1 rs.length va (rs.flatMap valI) ∧ RowsV M 6 Nd.cells rs xs ∧ 0 ≤ k ∧ k ≤ len rs ∧ q = len (flatTo xs k)) (fun (k, q) => (len rs - k).toNat) ((0, 0)) [0, 3, 9, 10, 11] rfl ?_ ?_
 ·refine ⟨hS1, ha, hrow, ?_⟩; exact ⟨by omega, by omega, rfl⟩
 ·rintro ⟨k, q⟩ wl ⟨hS2, ha, hrow, hk0, hk1, hq⟩
  have hrk := fun h : k < len rs => hrow.at hk0 h
  refine CW.sr (RL.u (.lss (.t rfl) (.t rfl)) rfl (RL.nil (CW.id (CW.seq ?_))))
  refine CW.cond rfl ?_ ?_ <;> intro hb1 <;> try simp only [zb] at hb1
  ·replace hrk := hrk hb1
   have hft := flatTo_step hk0 (by omega : k < len xs)
   have hfl := flatTo_le xs (k + 1)
   rw [hft, len_app] at hfl
   have hz := len_nonneg (at' xs k)
   have hz2 := len_nonneg (flatTo xs k)
   refine CW.skip (CW.id (CW.seq (CW.block (CW.sr ?_))))
   refine RL.u (.idxT ha (.t rfl) (.t rfl) Tryz.underlying47 Tryz.sizeOf24 (fun _ => by omega)) rfl (RL.u (.loadE1 (f := valI) (i := k) (j := 0) (u := ((at' rs k).v)) hS2 extEq ha valI_len (.t rfl) Tryz.isAgg24 (fun _ => by omega) rfl rfl) rfl (RL.a rfl rfl (RL.nil (CW.id ?_))))
   refine CW.sr (RL.m rfl rfl (RL.m rfl rfl (RL.u (.lenT hrk (.t rfl) ⟨_, Tryz.underlying24⟩) rfl (RL.u (.add (.t rfl) (.t rfl) (fun _ => by omega)) rfl (RL.a rfl rfl (RL.nil (CW.id (CW.sr ?_))))))))
   refine RL.m rfl rfl (RL.u (.lss (.t rfl) .c) rfl (RL.nil (CW.id ?_)))
   refine CW.cond rfl ?_ ?_ <;> intro hb2 <;> try simp only [zb] at hb2
   ·exfalso; omega
   ·refine CW.skip (CW.id ?_)
    refine CW.region (RL.u (.add (.t rfl) .c (fun _ => by omega)) rfl (RL.m rfl rfl ?_))
    refine RL.nil fun a hs => Exists.intro ((k + 1, q + (len (at' xs k)))) ⟨hs.keep [0, 3, 9, 10, 11], ?_, ?_⟩
    ·refine ⟨hS2, ha, hrow, ?_⟩
     exact ⟨by omega, by omega, by rw [hft, len_app]; omega⟩
    ·show Int.toNat _ < Int.toNat _; omega
  ·have hfe : flatTo xs k = xs.flatten := flatTo_end (by omega)
   have hz3 := len_nonneg xs.flatten
   have hfe1 : len (flatTo xs k) = len xs.flatten := by rw [hfe]
   refine CW.exit (CW.at [Y 0 va, Y 3 (i64 q)] rfl ?_)
   refine CW.sr (RL.m rfl rfl ?_)
   refine RL.callP Tryz.call131 (.cons .c (.cons (.t rfl) .nil)) (grow_c (Hs := (.own 38 6 (.slice none 0 0) (([] : List Nd)).length ((([] : List Nd)).flatMap Nd.cells) :: Rs)) q hS2 (by omega) (by omega)) rfl ?_
   rintro v3 w4 hS6
   refine RL.a rfl rfl ?_
   refine RL.nil (CW.at [Y 0 va, Y 6 v3] rfl (CW.seq (CW.sr (RL.m rfl rfl (RL.u (.lenT ha (.t rfl) ⟨_, Tryz.underlying47⟩) rfl (RL.u (.move .c) rfl (RL.nil (CW.id ?_))))))))
   refine CW.block ?_
   refine CW.loop (σ := Int × Value × List Nd × Mem) (fun (k, vl, ll, Ml) => [Y 6 vl, Y 25 va, Y 26 (i64 (len rs)), Y 27 (i64 k)]) (fun (k, vl, ll, Ml) wl => St w M0 wl Ml (.own 38 6 vl ll.length (ll.flatMap Nd.cells) :: .own 38 6 (.slice none 0 0) (([] : List Nd)).length ((([] : List Nd)).flatMap Nd.cells) :: Rs) ∧ Sl Ml 1 rs.length va (rs.flatMap valI) ∧ RowsV Ml 6 Nd.cells rs xs ∧ 0 ≤ k ∧ k ≤ len rs ∧ ll = flatTo xs k ∧ M.le Ml) (fun (k, vl, ll, Ml) => (len rs - k).toNat) ((0, v3, ([] : List Nd), M)) [6, 25, 26, 27] rfl ?_ ?_
   ·refine ⟨hS6, ha, hrow, ?_⟩; exact ⟨by omega, by omega, rfl, (Mem.le.refl _)⟩
   ·rintro ⟨k, vl, ll, Ml⟩ wl ⟨hS8, ha, hrow, hk0, hk1, hll, hle0⟩
    have hrk := fun h : k < len rs => hrow.at hk0 h
    refine CW.sr (RL.u (.lss (.t rfl) (.t rfl)) rfl (RL.nil (CW.id (CW.seq ?_))))
    refine CW.cond rfl ?_ ?_ <;> intro hb3 <;> try simp only [zb] at hb3
    ·replace hrk := hrk hb3
     have hft := flatTo_step hk0 (by omega : k < len xs)
     have hfl := flatTo_le xs (k + 1)
     rw [hft, len_app] at hfl
     have hz := len_nonneg (at' xs k)
     have hz2 := len_nonneg (flatTo xs k)
     refine CW.skip (CW.id (CW.seq (CW.block (CW.sr ?_))))
     refine RL.u (.idxT ha (.t rfl) (.t rfl) Tryz.underlying47 Tryz.sizeOf24 (fun _ => by omega)) rfl (RL.u (.loadE1 (f := valI) (i := k) (j := 0) (u := ((at' rs k).v)) hS8 extEq ha valI_len (.t rfl) Tryz.isAgg24 (fun _ => by omega) rfl rfl) rfl (RL.a rfl rfl (RL.nil (CW.id ?_))))
     refine CW.region (RL.m rfl rfl (RL.m rfl rfl ?_))
     refine RL.appendL (f := Nd.cells) (l := ll) (m := at' xs k) hS8 (k := 0) rfl (.t rfl) (.t rfl) hrk Tryz.underlying24 Tryz.type38 rfl rfl rfl Nd.cells_one (by' := 64) rfl rfl (by first | omega | (subst hll; omega) | (subst hq; omega)) rfl (Hs' := fun v' => (.own 38 6 v' (ll ++ at' xs k).length ((ll ++ at' xs k).flatMap Nd.cells) :: .own 38 6 (.slice none 0 0) (([] : List Nd)).length ((([] : List Nd)).flatMap Nd.cells) :: Rs)) (fun _ => rfl) (fun v9 w10 M11 hS12 hle13 => ?_)
     replace ha := ha.mono hle13
     replace hrow := hrow.mono hle13
     refine RL.a rfl rfl (RL.nil (CW.id ?_))
     refine CW.region (RL.u (.add (.t rfl) .c (fun _ => by omega)) rfl (RL.m rfl rfl ?_))
     refine RL.nil fun a hs => Exists.intro ((k + 1, v9, ll ++ at' xs k, M11)) ⟨hs.keep [6, 25, 26, 27], ?_, ?_⟩
     ·refine ⟨hS12, ha, hrow, ?_⟩
      exact ⟨by omega, by omega, by rw [hft, hll], (hle0.trans hle13)⟩
     ·show Int.toNat _ < Int.toNat _; omega
    ·refine CW.exit (CW.at [Y 6 vl] rfl ?_)
     refine CW.sr (RL.m rfl rfl (RL.a rfl rfl (RL.nil (CW.id (CW.ret (hE.r1 rfl rfl ?_))))))
     have hslr := (hS8.sl (i := 0) rfl)
     replace hS8 := (hS8.erase 1 rfl).erase 0 rfl
     have hfe2 : ll = xs.flatten := by rw [hll]; exact flatTo_end (by omega)
     subst hfe2
     exact ⟨_, rfl, Ml, hslr, hS8, hle0⟩

/- loupe/val.List -/
theorem vlist_c {w wv : World} {M0 M : Mem} {Rs : List HO} (rs : List SlH) (xs : List Vl) (va : Value) (hS : St w M0 wv M Rs) (ha : Sl M 1 rs.length va (rs.flatMap valI)) (hrow : RowsV M 6 Nd.cells rs xs) (hbd : len xs.flatten ≤ 1099511627776) :
  Calls Tryz.prog 74 [va].toArray wv fun e w' => ∃ u, e = .returned u ∧ ∃ a c M', u = .slice a (listV xs).length c ∧ Sl M' 6 (listV xs).length u ((listV xs).flatMap Nd.cells) ∧ St w M0 w' M' Rs ∧ M.le M' := by
 refine CW.enter1 Tryz.func74 rfl Tryz.ntmps74 (Nat.le_of_ble_eq_true rfl) fun Q hE => ?_
 have hrl : len rs = len xs := by unfold len; rw [hrow.len]
 have hn := len_nonneg xs.flatten
 refine CW.weaken [0] (L' := [Y 0 va]) ?_ rfl
 refine CW.sr ?_
 have hS1 := hS.ownNil 38 6
 refine RL.u (.assign .c) rfl (RL.nil (CW.id ?_))
 refine CW.sr (RL.m rfl rfl (RL.u (.lenT ha (.t rfl) ⟨_, Tryz.underlying47⟩) rfl (RL.u (.build (vs := [(0, (i64 5)), (1, (i64 (len rs)))]) (v := (.agg #[(i64 5), (i64 (len rs)), (str []), (str []), (.bool false), (i64 0)])) (.cons .c (.cons (.t rfl) .nil)) (fun w => by kernel_rfl)) rfl ?_)))
 refine RL.buildSlice (n := 1) (sz := 6) (e := 38) (vs := [(0, (.agg #[(i64 5), (i64 (len rs)), (str []), (str []), (.bool false), (i64 0)]))]) (cs := [(i64 5), (i64 (len rs)), (str []), (str []), (.bool false), (i64 0)]) hS1 (.cons (.t rfl) .nil) rfl rfl (fun w => by kernel_rfl) rfl (fun v2 w3 M4 hS5 hle6 => ?_)
 replace ha := ha.mono hle6
 replace hrow := hrow.mono hle6
 refine RL.m rfl rfl ?_
 refine RL.callP Tryz.call102 (.cons (.t rfl) .nil) (concat_c (Rs := (.own 38 6 v2 (([⟨5, len rs, [], [], false, 0⟩] : List Nd)).length ((([⟨5, len rs, [], [], false, 0⟩] : List Nd)).flatMap Nd.cells) :: .own 38 6 (.slice none 0 0) (([] : List Nd)).length ((([] : List Nd)).flatMap Nd.cells) :: Rs)) rs xs va hS5 ha hrow (by assumption)) rfl ?_
 rintro v7 w8 ⟨M9, hsl_v7, hS10, hle11⟩
 replace ha := ha.mono hle11
 replace hrow := hrow.mono hle11
 refine RL.appendL (f := Nd.cells) (l := ([⟨5, len rs, [], [], false, 0⟩] : List Nd)) (m := xs.flatten) hS10 (k := 0) rfl (.t rfl) (.t rfl) hsl_v7 Tryz.underlying24 Tryz.type38 rfl rfl rfl Nd.cells_one (by' := 64) rfl rfl (by first | omega | (simp only [len_app, len_cons, len_nil] at *; omega)) rfl (Hs' := fun v' => (.own 38 6 v' (([⟨5, len rs, [], [], false, 0⟩] : List Nd) ++ xs.flatten).length ((([⟨5, len rs, [], [], false, 0⟩] : List Nd) ++ xs.flatten).flatMap Nd.cells) :: .own 38 6 (.slice none 0 0) (([] : List Nd)).length ((([] : List Nd)).flatMap Nd.cells) :: Rs)) (fun _ => rfl) (fun v12 w13 M14 hS15 hle16 => ?_)
 replace ha := ha.mono hle16
 replace hrow := hrow.mono hle16
 refine RL.a rfl rfl ?_
 refine RL.nil (CW.at [Y 2 v12] rfl (CW.ret (hE.r1 rfl rfl ?_)))
 have hslr := (hS15.sl (i := 0) rfl)
 replace hS15 := (hS15.erase 1 rfl).erase 0 rfl
 rw [hrl] at hslr
 obtain ⟨az, cz, hz⟩ := Sl.shape hslr
 exact ⟨_, rfl, az, cz, M14, hz, hslr, hS15, ((hle6.trans hle11).trans hle16)⟩

end Go.Proofs.YtjfaikgooldcbaaGreatDoor
set_option maxRecDepth 100000
namespace Go.Proofs.YtjfaikgooldcbaaGreatDoor
open Go.Eng

def ListI (pb bl b2 b3 : Nat) (d i0 : Int) (xs : List Vl) (j : Int) (M : Mem) (Hs : List HO) : Prop := (len xs ≤ j ∧ len xs.flatten + 1 ≤ j - i0) ∧ ∃ v rs, RowsV M 6 Nd.cells rs xs ∧ Hs = [.box bl [v] 47, .own 24 1 v rs.length (rs.flatMap valI), .box b2 [.pointer (some ⟨pb, 0, none⟩)] 53, .box b3 [i64 d] 3]
theorem list_part {w : World} {M0 : Mem} {Rs : List HO} (s : Str) (pb bl b2 b3 : Nat) (d i0 : Int) (hb : len s ≤ 1099511627776) (hd : 0 ≤ d ∧ d ≤ 900) (f : Nat) (hval : ValOK w M0 s pb f) :
    PartOK w M0 Rs s pb 73 [.pointer (some ⟨bl, 0, none⟩), .pointer (some ⟨b2, 0, none⟩), .pointer (some ⟨b3, 0, none⟩)] (ListI pb bl b2 b3 d i0) (fun f x i => mapR (fun y => x ++ [y]) (valT f s i (d + 1))) f := by
  intro xs i wv M Hs hI h0 h1 hf hS
  obtain ⟨hlx, v, rs, hrow, rfl⟩ := hI
  refine (listpart_c (Rs := Rs) s i d pb bl b2 b3 v rs xs f i0 hS hrow hlx h0 h1 hb hd hf hval).mono fun e w' h => ?_
  show PPost w M0 M Rs 51 _ (mapR (fun y => xs ++ [y]) (valT f s i (d + 1))) e w'
  revert h
  generalize mapR (fun y => xs ++ [y]) (valT f s i (d + 1)) = r
  intro h
  cases r with
  | ok x j => obtain ⟨v', M', he, ⟨h2, h3, h4, v2, rs2, hr2, hS2⟩, hle⟩ := h; exact ⟨v', M', he, ⟨by omega, h3, _, ⟨h4, v2, rs2, hr2, rfl⟩, hS2⟩, hle⟩
  | er ec p => exact h
theorem list_parts {w wv : World} {M0 M : Mem} {Rs : List HO} (s : Str) (i d : Int) (pb bl b2 b3 : Nat) (Fu : Nat) (hS : St w M0 wv M (.box pb [str s, i64 (i)] 55 :: .box bl [.slice none 0 0] 47 :: .own 24 1 (.slice none 0 0) ([] : List SlH).length (([] : List SlH).flatMap valI) :: .box b2 [.pointer (some ⟨pb, 0, none⟩)] 53 :: .box b3 [i64 d] 3 :: Rs))
    (h0 : 0 ≤ i) (h1 : i < len s) (hb : len s ≤ 1099511627776) (hd : 0 ≤ d ∧ d ≤ 900) (hf : 2 * (len s - i) ≤ Fu) (hval : ∀ f, f < Fu → ValOK w M0 s pb f) :
    Calls Tryz.prog 72 [.pointer (some ⟨pb, 0, none⟩), str [93], (.func (.func 73) #[] #[(.pointer (some ⟨bl, 0, none⟩)), (.pointer (some ⟨b2, 0, none⟩)), (.pointer (some ⟨b3, 0, none⟩))])].toArray wv (PPost w M0 M Rs 51 (fun x j v M' w' => i + 2 ≤ j ∧ j ≤ len s ∧ (len x ≤ j ∧ len x.flatten + 1 ≤ j - i) ∧ ∃ v2 rs2, RowsV M' 6 Nd.cells rs2 x ∧ St w M0 w' M' (.box pb [str s, i64 (j)] 55 :: .box bl [v2] 47 :: .own 24 1 v2 rs2.length (rs2.flatMap valI) :: .box b2 [.pointer (some ⟨pb, 0, none⟩)] 53 :: .box b3 [i64 d] 3 :: Rs)) (partsT s i [93] [] (itemsT Fu s d))) := by
  refine (parts_c (Rs := Rs) s [93] i pb 73 [.pointer (some ⟨bl, 0, none⟩), .pointer (some ⟨b2, 0, none⟩), .pointer (some ⟨b3, 0, none⟩)] (ListI pb bl b2 b3 d i) (fun f x i => mapR (fun y => x ++ [y]) (valT f s i (d + 1))) (fun f => itemsT f s d) [] Fu _ hS ⟨⟨by simp only [len_nil]; omega, by simp only [List.flatten_nil, len_nil]; omega⟩, _, [], trivial, rfl⟩ ?_ Tryz.call73 (fun f x i => by rw [itemsT]) (fun f hf => list_part s pb bl b2 b3 d i hb hd f (hval f hf)) rfl hf h0 h1 hb).mono fun e w' h => ?_
  · rintro x M Hs j j2 hj ⟨⟨h1, h2⟩, h3⟩; exact ⟨⟨by omega, by omega⟩, h3⟩
  · revert h
    show PPost _ _ _ _ _ _ _ _ _ → PPost _ _ _ _ _ _ _ _ _
    generalize partsT s i [93] [] (itemsT Fu s d) = r
    intro h
    cases r with
    | ok x j => obtain ⟨v', M', he, ⟨h2, h3, _, ⟨h4, v2, rs2, hr2, rfl⟩, hS2⟩, hle⟩ := h; exact ⟨v', M', he, ⟨h2, h3, h4, v2, rs2, hr2, hS2⟩, hle⟩
    | er ec p => exact h
/- (*loupe/text.parser).list -/
theorem listp_c {w wv : World} {M0 M : Mem} {Rs : List HO} (s : Str) (i d : Int) (pb : Nat) (Fu : Nat) (hS : St w M0 wv M (.box pb [(str s), (i64 i)] 55 :: Rs)) (h0 : 0 ≤ i) (h1 : i < len s) (hb : len s ≤ 1099511627776) (hd : 0 ≤ d ∧ d ≤ 900) (hf : 2 * (len s - i) ≤ Fu) (hval : ∀ f, f < Fu → ValOK w M0 s pb f) :
  Calls Tryz.prog 45 [(.pointer (some ⟨pb, 0, none⟩)), (i64 d)].toArray wv fun e w' => PPost w M0 M Rs 51 (fun x j v M' w' => ∃ a c, v = .slice a x.length c ∧ i + 1 ≤ j ∧ j ≤ len s ∧ len x ≤ j - i ∧ Sl M' 6 x.length (.slice a x.length c) (x.flatMap Nd.cells) ∧ St w M0 w' M' (.box pb [str s, i64 j] 55 :: Rs)) (mapR listV (partsT s i [93] [] (itemsT Fu s d))) e w' := by
 refine CW.enter1 Tryz.func45 rfl Tryz.ntmps45 (Nat.le_of_ble_eq_true rfl) fun Q hE => ?_
 refine CW.weaken [0, 1] (L' := [Y 0 (.pointer (some ⟨pb, 0, none⟩)), Y 1 (i64 d)]) ?_ rfl
 refine CW.sr ?_
 refine RL.box (v := (.pointer (some ⟨pb, 0, none⟩))) hS (.t rfl) rfl (fun w1 b2 hS3 => ?_)
 refine RL.box (v := (i64 d)) hS3 (.t rfl) rfl (fun w4 b5 hS6 => ?_)
 have hS7 := hS6.ownNil 38 6
 refine RL.u (.assign .c) rfl (RL.nil (CW.id ?_))
 refine CW.sr ?_
 refine RL.alloc hS7 Tryz.zeroValue47 rfl (fun w8 b9 hS10 => ?_)
 have hS11 := hS10.ownNil 24 1
 refine RL.nil (CW.id (CW.sr (RL.u (.loadB1 (v := (.pointer (some ⟨pb, 0, none⟩))) hS11 extEq (i := 4) rfl (.t rfl) Tryz.isAgg53 rfl) rfl (RL.u (.makeFunc .nil (.cons (.t rfl) (.cons (.t rfl) (.cons (.t rfl) .nil)))) rfl ?_))))
 replace hS11 := (hS11.front 3 rfl rfl).front 4 rfl rfl
 replace hS11 := (hS11.front 2 rfl rfl).front 3 rfl rfl
 replace hS11 := hS11.front 5 rfl rfl
 refine RL.callR Tryz.call72 (.cons (.t rfl) (.cons .c (.cons (.t rfl) .nil))) (list_parts (Rs := (.own 38 6 (.slice none 0 0) (([] : List Nd)).length ((([] : List Nd)).flatMap Nd.cells) :: Rs)) s i d pb b9 b2 b5 Fu hS11 h0 h1 hb hd hf hval) rfl (fun ec p M23 w24 hr27 hS25 hle26 => ?_) (fun x14 j15 v16 M18 w17 hr19 hF22 hle21 => ?_)
 ·replace hS25 := hS25.drop Rs (List.sublist_append_right [_] _)
  exact hE.p (PPost.er (show mapR _ _ = _ from by rw [hr27]; rfl) hS25 hle26)
 obtain ⟨hF22a, hF22b, ⟨hF22c, hF22d⟩, v12, rs13, hrow, hS20⟩ := hF22
 refine RL.nil (CW.at [Y 5 (.pointer (some ⟨b9, 0, none⟩))] rfl (CW.sr (RL.u (.loadB1 (v := v12) hS20 extEq (i := 1) rfl (.t rfl) Tryz.isAgg47 rfl) rfl ?_)))
 refine RL.callP Tryz.call74 (.cons (.t rfl) .nil) (vlist_c (Rs := (.box pb [(str s), (i64 j15)] 55 :: .box b9 [v12] 47 :: .own 24 1 v12 rs13.length (rs13.flatMap valI) :: .box b2 [(.pointer (some ⟨pb, 0, none⟩))] 53 :: .box b5 [(i64 d)] 3 :: .own 38 6 (.slice none 0 0) (([] : List Nd)).length ((([] : List Nd)).flatMap Nd.cells) :: Rs)) rs13 x14 v12 hS20 (hS20.sl (i := 2) rfl) hrow (by omega)) rfl ?_
 rintro v30 w31 ⟨a28, c29, M32, rfl, hsl_v30, hS33, hle34⟩
 replace hrow := hrow.mono hle34
 refine RL.a rfl rfl ?_
 refine RL.nil (CW.at [Y 4 (.slice a28 (listV x14).length c29)] rfl (CW.ret (hE.r1 rfl rfl ?_)))
 have hslr := hsl_v30
 replace hS33 := (hS33.erase 5 rfl).erase 4 rfl
 replace hS33 := (hS33.erase 3 rfl).erase 2 rfl
 replace hS33 := hS33.erase 1 rfl
 have hlz : len (listV x14) = len x14.flatten + 1 := len_cons _ _
 exact PPost.ok (show mapR _ _ = _ from by rw [hr19]; rfl) ⟨_, _, rfl, by omega, by omega, by omega, hslr, hS33⟩ (hle21.trans hle34)

end Go.Proofs.YtjfaikgooldcbaaGreatDoor
namespace Go.Eng
open Go.RowKit

/-- The pairs that have been visited, and their births. -/
def Vis (seen : Array Nat) (bs : List Nat) (ps m : List (Str × Vl)) : Prop := seen.toList = bs ∧ bs.length = ps.length ∧ (∀ p ∈ ps, p ∈ m) ∧ (ps.map (·.1)).Nodup
def KeysOK (m : List (Str × Vl)) : Prop := (m.map (·.1)).Nodup
theorem putV_keys (n : Str) (x : Vl) : ∀ m : List (Str × Vl), (n ∈ m.map (·.1) → (putV m n x).map (·.1) = m.map (·.1)) ∧ (n ∉ m.map (·.1) → (putV m n x).map (·.1) = m.map (·.1) ++ [n])
  | [] => ⟨fun h => (by cases h), fun _ => rfl⟩
  | p :: m => by
    have ih := putV_keys n x m
    by_cases h : n = p.1
    · refine ⟨fun _ => ?_, fun hn => absurd ?_ hn⟩
      · unfold putV; rw [if_pos (by simpa using h)]; simp [h]
      · simp [h]
    · have e : putV (p :: m) n x = p :: putV m n x := by rw [putV, if_neg (by simpa using h)]
      rw [e]
      refine ⟨fun hn => ?_, fun hn => ?_⟩
      · simp only [List.map_cons, List.mem_cons] at hn ⊢
        rcases hn with hn | hn
        · exact absurd hn h
        · rw [ih.1 hn]
      · simp only [List.map_cons, List.mem_cons, not_or] at hn ⊢
        rw [ih.2 hn.2]; rfl
theorem KeysOK.put {m : List (Str × Vl)} (h : KeysOK m) (n : Str) (x : Vl) : KeysOK (putV m n x) := by
  unfold KeysOK at *
  by_cases hn : n ∈ m.map (·.1)
  · rw [(putV_keys n x m).1 hn]; exact h
  · rw [(putV_keys n x m).2 hn, List.nodup_append]
    refine ⟨h, by simp, fun a ha b hb => ?_⟩
    simp only [List.mem_singleton] at hb
    subst hb; intro e; subst e; exact hn ha
/-- Pairs of distinct keys within a map, as many as it has: the map, in some order. -/
theorem perm_of_sub {ps : List (Str × Vl)} : ∀ {m : List (Str × Vl)}, (ps.map (·.1)).Nodup → (∀ p ∈ ps, p ∈ m) → ps.length = m.length → ps.Perm m := by
  induction ps with
  | nil =>
    intro m _ _ hl
    have hm : m = [] := List.eq_nil_of_length_eq_zero (by simpa using hl.symm)
    subst hm; exact List.Perm.refl _
  | cons p ps ih =>
    intro m hk hs hl
    rw [List.map_cons, List.nodup_cons] at hk
    have hp := hs p List.mem_cons_self
    have h1 : ps.Perm (m.erase p) := ih hk.2 (fun q hq => (List.mem_erase_of_ne (fun e => hk.1 (List.mem_map.2 ⟨q, hq, by rw [e]⟩))).2 (hs q (List.mem_cons_of_mem _ hq))) (by rw [List.length_erase_of_mem hp]; simp only [List.length_cons] at hl; omega)
    exact (h1.cons p).trans (List.perm_cons_erase hp).symm
theorem getV_of_mem {m : List (Str × Vl)} (h : KeysOK m) {p : Str × Vl} (hp : p ∈ m) : getV m p.1 = some p.2 := by
  induction m with
  | nil => cases hp
  | cons q m ih =>
    unfold KeysOK at h
    rw [List.map_cons, List.nodup_cons] at h
    unfold getV
    rcases List.mem_cons.1 hp with rfl | hp
    · simp
    · have hne : ¬ (p.1 == q.1) = true := by
        intro e
        exact h.1 (List.mem_map.2 ⟨p, hp, by simpa using e⟩)
      rw [if_neg hne]; exact ih h.2 hp
theorem pairT_keys {s : Str} {i : Int} {val : Int → PR Vl} {m x : List (Str × Vl)} {j : Int} (hk : KeysOK m) (h : pairT s i val m = .ok x j) : KeysOK x := by
  unfold pairT at h
  split at h
  · cases h
  · split at h
    · rename_i n q _ _
      unfold mapR at h
      split at h
      · cases h
      · cases h; exact hk.put n _
    · cases h
theorem str_total (a b : Str) : (decide (a ≤ b) || decide (b ≤ a)) = true := by
  rcases Classical.em (a ≤ b) with h | h
  · simp [h]
  · simp [List.le_of_lt (List.not_le.1 h)]
theorem str_trans (a b c : Str) (h1 : decide (a ≤ b) = true) (h2 : decide (b ≤ c) = true) : decide (a ≤ c) = true := by
  simp only [decide_eq_true_eq] at *; exact List.le_trans h1 h2
theorem sortN_perm {a b : List Str} (h : a.Perm b) : sortN a = sortN b := by
  unfold sortN
  refine List.Perm.eq_of_pairwise (le := fun x y => decide (x ≤ y) = true) (fun x y _ _ h1 h2 => ?_) (List.pairwise_mergeSort str_trans str_total _) (List.pairwise_mergeSort str_trans str_total _) (((List.mergeSort_perm _ _).trans h).trans (List.mergeSort_perm _ _).symm)
  simp only [decide_eq_true_eq] at h1 h2
  exact List.le_antisymm h1 h2
/-- An object does not hang on the order in which a map is ranged over. -/
theorem objV_perm {ps m : List (Str × Vl)} (h : ps.Perm m) (hk : KeysOK m) : objV ps = objV m := by
  have hkp : KeysOK ps := (List.Perm.map (fun p : Str × Vl => p.1) h).symm.nodup hk
  unfold objV
  rw [sortN_perm (h.map (·.1))]
  congr 1
  refine List.map_congr_left fun n hn => ?_
  have hn' : n ∈ m.map (·.1) := (List.mergeSort_perm _ _).mem_iff.1 hn
  obtain ⟨q, hq, rfl⟩ := List.mem_map.1 hn'
  rw [getV_of_mem hk hq, getV_of_mem hkp (h.mem_iff.2 hq)]
end Go.Eng
namespace Go.Eng
open Go.RowKit

theorem byteAt_l {u v : Str} {j : Int} (h0 : 0 ≤ j) (h : j < len u) : byteAt (u ++ v) j = byteAt u j := by
  unfold len at h
  unfold byteAt
  rw [List.getD_eq_getElem?_getD, List.getD_eq_getElem?_getD, List.getElem?_append_left (by omega)]
theorem byteAt_r {u v : Str} {k : Int} (h0 : 0 ≤ k) : byteAt (u ++ v) (len u + k) = byteAt v k := by
  unfold byteAt len
  rw [List.getD_eq_getElem?_getD, List.getD_eq_getElem?_getD, List.getElem?_append_right (by omega), show ((u.length : Int) + k).toNat - u.length = k.toNat from by omega]
theorem u8_nat {x : Int} (h0 : 0 ≤ x) (h1 : x < 256) : ((UInt8.ofNat x.toNat).toNat : Int) = x := by
  rw [show (UInt8.ofNat x.toNat).toNat = x.toNat % 256 from rfl, Nat.mod_eq_of_lt (by omega)]; omega
theorem rune_agr {s s' : Str} {i i' : Int} (h0 : 0 ≤ i) (h0' : 0 ≤ i') (h1 : 1 ≤ rune s i) (hl : i < len s) (hl' : i' + rune s i ≤ len s') (h : ∀ j, 0 ≤ j → j < rune s i → byteAt s' (i' + j) = byteAt s (i + j)) :
    rune s' i' = rune s i ∧ runeAt s' i' = runeAt s i ∧ runeLen s' i' = runeLen s i := by
  have hb := rune_bd s i
  have hle := rune_le s i hl
  have a0 : byteAt s' i' = byteAt s i := by have := h 0 (by omega) (by omega); rwa [Int.add_zero, Int.add_zero] at this
  have a1 : 2 ≤ rune s i → byteAt s' (i' + 1) = byteAt s (i + 1) := fun x => h 1 (by omega) (by omega)
  have a2 : 3 ≤ rune s i → byteAt s' (i' + 2) = byteAt s (i + 2) := fun x => h 2 (by omega) (by omega)
  have a3 : 4 ≤ rune s i → byteAt s' (i' + 3) = byteAt s (i + 3) := fun x => h 3 (by omega) (by omega)
  have er : rune s' i' = rune s i := by
    clear h
    generalize hk : rune s i = k at *
    unfold rune cont at hk ⊢
    dsimp only at hk ⊢
    rw [a0]
    simp only [Bool.and_eq_true, Bool.or_eq_true, decide_eq_true_eq, beq_iff_eq] at hk ⊢
    split at hk
    · rw [if_pos (by assumption)]; exact hk
    rename_i c0
    rw [if_neg c0]
    split at hk
    · rename_i c1
      subst hk
      have := a1 (by omega)
      rw [if_pos (by omega)]
    rename_i c1
    split at hk
    · rename_i c2
      have hk3 : k = 3 := by split at hk <;> omega
      have e1 := a1 (by omega)
      have e2 := a2 (by omega)
      rw [if_neg (by omega), if_pos (by omega), e1]
      exact hk
    rename_i c2
    split at hk
    · rename_i c3
      have hk4 : k = 4 := by split at hk <;> omega
      have e1 := a1 (by omega)
      have e2 := a2 (by omega)
      have e3 := a3 (by omega)
      rw [if_neg (by omega), if_neg (by omega), if_pos (by omega), e1]
      exact hk
    · omega
  refine ⟨er, ?_⟩
  have hl2 : i' < len s' := by omega
  have D := runeN_dec (s.length - i.toNat) (s.getD i.toNat 0).toNat (s.getD (i.toNat + 1) 0).toNat (s.getD (i.toNat + 2) 0).toNat (s.getD (i.toNat + 3) 0).toNat (by unfold len at *; omega) (UInt8.toNat_lt _) (UInt8.toNat_lt _) (UInt8.toNat_lt _) (UInt8.toNat_lt _)
  have D' := runeN_dec (s'.length - i'.toNat) (s'.getD i'.toNat 0).toNat (s'.getD (i'.toNat + 1) 0).toNat (s'.getD (i'.toNat + 2) 0).toNat (s'.getD (i'.toNat + 3) 0).toNat (by unfold len at *; omega) (UInt8.toNat_lt _) (UInt8.toNat_lt _) (UInt8.toNat_lt _) (UInt8.toNat_lt _)
  have r1 := rune_N h0 hl
  have r2 := rune_N h0' hl2
  have q : ∀ (t : Str) (x : Int), 0 ≤ x → runeAt t x = ((Lib.decodeN (t.length - x.toNat) (t.getD x.toNat 0).toNat (t.getD (x.toNat + 1) 0).toNat (t.getD (x.toNat + 2) 0).toNat (t.getD (x.toNat + 3) 0).toNat).1 : Nat) ∧ runeLen t x = ((Lib.decodeN (t.length - x.toNat) (t.getD x.toNat 0).toNat (t.getD (x.toNat + 1) 0).toNat (t.getD (x.toNat + 2) 0).toNat (t.getD (x.toNat + 3) 0).toNat).2 : Nat) := fun t x hx => by
    unfold runeAt runeLen; rw [decode_same t x hx, decode_from t x hx]; exact ⟨rfl, rfl⟩
  obtain ⟨q1, q2⟩ := q s i h0
  obtain ⟨q3, q4⟩ := q s' i' h0'
  rw [q1, q2, q3, q4]
  have n0 : ∀ (t : Str) (x : Int), 0 ≤ x → byteAt t x = ((t.getD x.toNat 0).toNat : Int) := fun t x hx => rfl
  have nj := fun (t : Str) (x : Int) (hx : 0 ≤ x) (j : Nat) => byteAt_nat t x hx j
  rw [n0 s i h0, n0 s' i' h0'] at a0
  have b1 : byteAt s (i + 1) = _ := nj s i h0 1
  have b2 : byteAt s (i + 2) = _ := nj s i h0 2
  have b3 : byteAt s (i + 3) = _ := nj s i h0 3
  have b1' : byteAt s' (i' + 1) = _ := nj s' i' h0' 1
  have b2' : byteAt s' (i' + 2) = _ := nj s' i' h0' 2
  have b3' : byteAt s' (i' + 3) = _ := nj s' i' h0' 3
  rw [b1, b1'] at a1
  rw [b2, b2'] at a2
  rw [b3, b3'] at a3
  unfold DecAs at D D'
  generalize (s.getD i.toNat 0).toNat = x0 at *
  generalize (s.getD (i.toNat + 1) 0).toNat = x1 at *
  generalize (s.getD (i.toNat + 2) 0).toNat = x2 at *
  generalize (s.getD (i.toNat + 3) 0).toNat = x3 at *
  generalize (s'.getD i'.toNat 0).toNat = y0 at *
  generalize (s'.getD (i'.toNat + 1) 0).toNat = y1 at *
  generalize (s'.getD (i'.toNat + 2) 0).toNat = y2 at *
  generalize (s'.getD (i'.toNat + 3) 0).toNat = y3 at *
  generalize runeN (s.length - i.toNat) x0 x1 x2 x3 = k at *
  generalize runeN (s'.length - i'.toNat) y0 y1 y2 y3 = k' at *
  generalize Lib.decodeN (s.length - i.toNat) x0 x1 x2 x3 = d at *
  generalize Lib.decodeN (s'.length - i'.toNat) y0 y1 y2 y3 = d' at *
  obtain ⟨d1, d2⟩ := d
  obtain ⟨e1, e2⟩ := d'
  clear q1 q2 q3 q4 q n0 nj b1 b2 b3 b1' b2' b3' h
  dsimp only at *
  rcases D with D | D | D | D | D <;> rcases D' with D' | D' | D' | D' | D' <;> first | (exfalso; omega) | (constructor <;> omega)

theorem utf_shift {a b : Str} : ∀ (j : Int), 0 ≤ j → utfFrom b j = true → utfFrom (a ++ b) (len a + j) = true
  | j, h0, h => by
    have hl := len_app a b
    have ha := len_nonneg a
    by_cases hj : j < len b
    · by_cases hr : rune b j = 0
      · rw [utfFrom_bad b j h0 hj hr] at h; cases h
      have hb := rune_bd b j
      have hle := rune_le b j hj
      rw [← utfFrom_step b j h0 hj (by omega)] at h
      have agr := rune_agr (s := b) (s' := a ++ b) (i := j) (i' := len a + j) h0 (by omega) (by omega) hj (by omega) (fun k x y => by
        rw [show len a + j + k = len a + (j + k) from by omega, byteAt_r (by omega)])
      rw [← utfFrom_step (a ++ b) (len a + j) (by omega) (by omega) (by rw [agr.1]; omega), agr.1, Int.add_assoc]
      exact utf_shift (j + rune b j) (by omega) h
    · exact utfFrom_end _ _ (by omega)
termination_by j => (len b - j).toNat
theorem utf_app {a b : Str} (hb : utf b = true) : ∀ (i : Int), 0 ≤ i → i ≤ len a → utfFrom a i = true → utfFrom (a ++ b) i = true
  | i, h0, h1, h => by
    have hl := len_app a b
    have hbn := len_nonneg b
    by_cases hi : i < len a
    · by_cases hr : rune a i = 0
      · rw [utfFrom_bad a i h0 hi hr] at h; cases h
      have hbd := rune_bd a i
      have hle := rune_le a i hi
      rw [← utfFrom_step a i h0 hi (by omega)] at h
      have agr := rune_agr (s := a) (s' := a ++ b) (i := i) (i' := i) h0 h0 (by omega) hi (by omega) (fun k x y => byteAt_l (by omega) (by omega))
      rw [← utfFrom_step (a ++ b) i h0 (by omega) (by rw [agr.1]; omega), agr.1]
      exact utf_app hb (i + rune a i) (by omega) hle h
    · have e : i = len a := by omega
      subst e
      have := utf_shift (a := a) (b := b) 0 (Int.le_refl 0) hb
      rwa [Int.add_zero] at this
termination_by i => (len a - i).toNat
theorem utf_one {s : Str} (hn : 0 < len s) (h : rune s 0 = len s) : utf s = true := by
  unfold utf
  rw [← utfFrom_step s 0 (Int.le_refl 0) hn (by omega)]
  exact utfFrom_end s (0 + rune s 0) (by omega)
theorem utf_enc (r : Int) : utf (toStr (Lib.encodeRuneZ r)) = true := by
  have b0 : ∀ (x : UInt8) (l : Str), byteAt (x :: l) 0 = (x.toNat : Int) := fun _ _ => rfl
  have b1 : ∀ (x y : UInt8) (l : Str), byteAt (x :: y :: l) (0 + 1) = (y.toNat : Int) := fun _ _ _ => rfl
  have b2 : ∀ (x y z : UInt8) (l : Str), byteAt (x :: y :: z :: l) (0 + 2) = (z.toNat : Int) := fun _ _ _ _ => rfl
  have b3 : ∀ (x y z u : UInt8) (l : Str), byteAt (x :: y :: z :: u :: l) (0 + 3) = (u.toNat : Int) := fun _ _ _ _ _ => rfl
  have l1 : ∀ (x : UInt8), len [x] = 1 := fun _ => rfl
  have l2 : ∀ (x y : UInt8), len [x, y] = 2 := fun _ _ => rfl
  have l3 : ∀ (x y z : UInt8), len [x, y, z] = 3 := fun _ _ _ => rfl
  have l4 : ∀ (x y z u : UInt8), len [x, y, z, u] = 4 := fun _ _ _ _ => rfl
  unfold Lib.encodeRuneZ
  split
  · refine utf_one (show (0 : Int) < 1 by decide) ?_
    show rune [UInt8.ofNat r.toNat] 0 = 1
    unfold rune
    rw [b0, u8_nat (by omega) (by omega)]
    dsimp only
    rw [if_pos (by omega)]
  split
  · refine utf_one (show (0 : Int) < 2 by decide) ?_
    show rune [UInt8.ofNat (192 + r / 64).toNat, UInt8.ofNat (128 + r % 64).toNat] 0 = 2
    unfold rune cont
    rw [b0, b1, l2, u8_nat (by omega) (by omega), u8_nat (by omega) (by omega)]
    dsimp only
    simp only [Bool.and_eq_true, decide_eq_true_eq]
    rw [if_neg (by omega), if_pos (by omega)]
  split
  · refine utf_one (show (0 : Int) < 3 by decide) ?_
    show rune [UInt8.ofNat (224 + r / 4096).toNat, UInt8.ofNat (128 + r / 64 % 64).toNat, UInt8.ofNat (128 + r % 64).toNat] 0 = 3
    unfold rune cont
    rw [b0, b1, b2, l3, u8_nat (by omega) (by omega), u8_nat (by omega) (by omega), u8_nat (by omega) (by omega)]
    dsimp only
    simp only [Bool.and_eq_true, Bool.or_eq_true, decide_eq_true_eq, beq_iff_eq]
    rw [if_neg (by omega), if_neg (by omega), if_pos (by omega), if_neg (by omega)]
  split
  · refine utf_one (show (0 : Int) < 4 by decide) ?_
    show rune [UInt8.ofNat (240 + r / 262144).toNat, UInt8.ofNat (128 + r / 4096 % 64).toNat, UInt8.ofNat (128 + r / 64 % 64).toNat, UInt8.ofNat (128 + r % 64).toNat] 0 = 4
    unfold rune cont
    rw [b0, b1, b2, b3, l4, u8_nat (by omega) (by omega), u8_nat (by omega) (by omega), u8_nat (by omega) (by omega), u8_nat (by omega) (by omega)]
    dsimp only
    simp only [Bool.and_eq_true, Bool.or_eq_true, decide_eq_true_eq, beq_iff_eq]
    rw [if_neg (by omega), if_neg (by omega), if_neg (by omega), if_pos (by omega), if_neg (by omega)]
  · decide +kernel
theorem utf_add {acc : List Int} (h : utf (toStr acc) = true) (r : Int) : utf (toStr (acc ++ Lib.encodeRuneZ r)) = true := by
  rw [toStr_app]
  exact utf_app (utf_enc r) 0 (Int.le_refl 0) (len_nonneg _) h
theorem utf_nil : utf [] = true := by decide +kernel
theorem unqGo_utf {s : Str} : ∀ (f : Nat) (i : Int) (acc : List Int), utf (toStr acc) = true → utf (unqGo f s i acc).1 = true
  | 0, _, _, _ => by unfold unqGo; exact utf_nil
  | f + 1, i, acc, h => by
    unfold unqGo
    split
    · split
      · exact h
      · split
        · split
          · exact utf_nil
          · exact unqGo_utf f _ _ (utf_add h _)
        · split
          · exact utf_nil
          · exact unqGo_utf f _ _ (utf_add h _)
    · exact utf_nil
theorem unq_utf (s : Str) : utf (unqP s).1 = true := by
  unfold unqP
  split
  · exact unqGo_utf _ _ _ utf_nil
  · exact utf_nil
theorem enc_len (r : Int) : len (Lib.encodeRuneZ r) ≤ 4 := by
  unfold Lib.encodeRuneZ
  repeat' split
  all_goals (unfold len; simp)
theorem unqGo_len {s : Str} : ∀ (f : Nat) (i : Int) (acc : List Int), 0 ≤ i → i ≤ len s → len (unqGo f s i acc).1 ≤ len acc + 4 * (len s - i)
  | 0, i, acc, h0, h1 => by unfold unqGo; have := len_nonneg acc; rw [len_nil]; omega
  | f + 1, i, acc, h0, h1 => by
    have ha := len_nonneg acc
    have hn : len ([] : Str) = 0 := rfl
    have he := enc_len
    unfold unqGo
    split
    · rename_i hlt
      have hf := from_len s i h0 h1
      split
      · have : len (toStr acc) = len acc := by unfold toStr len; simp
        dsimp only; omega
      · split
        · have hb := escP_le (from' s i)
          split
          · dsimp only; omega
          · have := unqGo_len (s := s) f (i + (escP (from' s i)).2) (acc ++ Lib.encodeRuneZ (escP (from' s i)).1) (by omega) (by omega)
            have := he (escP (from' s i)).1
            rw [len_app] at *
            omega
        · split
          · dsimp only; omega
          · have hb := runeLen_bd h0 hlt
            rw [runeLen_from s i h0]
            have := unqGo_len (s := s) f (i + runeLen s i) (acc ++ Lib.encodeRuneZ (runeAt (from' s i) 0)) (by omega) (by omega)
            have := he (runeAt (from' s i) 0)
            rw [len_app] at *
            omega
    · dsimp only; omega
theorem unq_len (s : Str) : len (unqP s).1 ≤ 4 * len s := by
  have := len_nonneg s
  unfold unqP
  split
  · rename_i h
    have h1 : (1 : Int) ≤ len s := hasPrefix_len h
    have := unqGo_len (s := s) s.length 1 [] (by omega) h1
    rw [len_nil] at this; omega
  · show len ([] : Str) ≤ _
    rw [len_nil]; omega
end Go.Eng
