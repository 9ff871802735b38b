/-
  THE ENGINE, PART 17: slices of slices: an element is a slice's header; a fact beside tells what each of them holds. Over any program.
  THE ENGINE, PART 14: maps whose keys are strings: as those of integers (EngG), text for text. Over any program.
  A map from texts to slices, against the pairs that it holds. No program in it.
  slices.Grow of the nil slice of nodes: its walk is turned from the kit's (SlicesGrow), to this program's body.
  A map ranged over: what has been visited; a map's keys. No program in it.
-/
import Derived.Test.YtjfaikgooldcbaaGreatDoorZk4
import Derived.Laws.BitsLemmas
import Derived.Test.YtjfaikgooldcbaaGreatDoorZk3
import Derived.Test.YtjfaikgooldcbaaGreatDoorProg
import Derived.Test.YtjfaikgooldcbaaGreatDoorZk10
import Derived.Test.YtjfaikgooldcbaaGreatDoorZk6
import Derived.Shelf.Spec.SlicesGrow
set_option linter.unusedVariables false
set_option linter.unusedSimpArgs false
namespace Go.Eng
open Go.RowKit

structure SlH where
  a : Option Addr
  n : Nat
  c : Nat
deriving Inhabited
def valI (h : SlH) : List Value := [.slice h.a h.n h.c]
theorem valI_len (h : SlH) : (valI h).length = 1 := rfl
theorem valI_one (h : SlH) : ∀ u ∈ valI h, u.oneCell' = true := by intro u hu; simp [valI] at hu; subst hu; rfl
abbrev SlH.v (h : SlH) : Value := .slice h.a h.n h.c
/-- Each header's slice holds the cells of the list beside. -/
def RowsV {α : Type} (M : Mem) (sz : Nat) (f : α → List Value) : List SlH → List (List α) → Prop
  | [], [] => True
  | h :: hs, x :: xs => Sl M sz x.length h.v (x.flatMap f) ∧ RowsV M sz f hs xs
  | _, _ => False
section
variable {α : Type} {M M' : Mem} {sz : Nat} {f : α → List Value}
theorem RowsV.mono (hm : M.le M') : ∀ {hs : List SlH} {xs : List (List α)}, RowsV M sz f hs xs → RowsV M' sz f hs xs
  | [], [], _ => trivial
  | _ :: _, _ :: _, h => ⟨h.1.mono hm, RowsV.mono hm h.2⟩
  | [], _ :: _, h => h.elim
  | _ :: _, [], h => h.elim
theorem RowsV.snoc {h : SlH} {x : List α} (hx : Sl M sz x.length h.v (x.flatMap f)) : ∀ {hs : List SlH} {xs : List (List α)}, RowsV M sz f hs xs → RowsV M sz f (hs ++ [h]) (xs ++ [x])
  | [], [], _ => ⟨hx, trivial⟩
  | _ :: _, _ :: _, h => ⟨h.1, RowsV.snoc hx h.2⟩
  | [], _ :: _, h => h.elim
  | _ :: _, [], h => h.elim
theorem RowsV.len : ∀ {hs : List SlH} {xs : List (List α)}, RowsV M sz f hs xs → hs.length = xs.length
  | [], [], _ => rfl
  | _ :: _, _ :: _, h => by simp [RowsV.len h.2]
  | [], _ :: _, h => h.elim
  | _ :: _, [], h => h.elim
theorem RowsV.get : ∀ {hs : List SlH} {xs : List (List α)} (k : Nat), RowsV M sz f hs xs → k < hs.length → Sl M sz (xs.getD k []).length (hs.getD k default).v ((xs.getD k []).flatMap f)
  | [], _, _, _, h => absurd h (Nat.not_lt_zero _)
  | _ :: _, [], _, h, _ => h.elim
  | _ :: _, _ :: _, 0, h, _ => h.1
  | _ :: _, _ :: _, k + 1, h, hk => by simpa using RowsV.get k h.2 (by simpa using hk)
end
theorem RowsV.at {α : Type} {M : Mem} {sz : Nat} {f : α → List Value} {hs : List SlH} {xs : List (List α)} {k : Int} (h : RowsV M sz f hs xs) (h0 : 0 ≤ k) (h1 : k < Eng.len hs) : Sl M sz (at' xs k).length (at' hs k).v ((at' xs k).flatMap f) :=
  by
  have := RowsV.get k.toNat h (by unfold Eng.len at h1; omega)
  exact this
/-- A slice's value is a header. -/
theorem Sl.shape {M : Mem} {sz n : Nat} {v : Value} {cs : List Value} (h : Sl M sz n v cs) : ∃ a c, v = .slice a n c := by
  obtain ⟨p, cap, hv, _⟩ := h.val; exact ⟨p, cap, hv⟩
end Go.Eng
set_option maxRecDepth 100000
namespace Go.Proofs.YtjfaikgooldcbaaGreatDoor
open Go.Eng

/-- What value does, given so much fuel. -/
def ValOK (w : World) (M0 : Mem) (s : Str) (pb : Nat) (f : Nat) : Prop := ∀ {Rs : List HO} {wv : World} {M : Mem} (i d : Int), St w M0 wv M (.box pb [str s, i64 (i)] 55 :: Rs) → 0 ≤ i → i ≤ len s → 0 ≤ d → d ≤ 1000 → 2 * (len s - i) + 1 ≤ f →
    Calls Tryz.prog 27 [.pointer (some ⟨pb, 0, none⟩), i64 d].toArray wv (PPost w M0 M Rs 51 (fun x j v M' w' => ∃ a c, v = .slice a x.length c ∧ i + 1 ≤ j ∧ j ≤ len s ∧ len x ≤ j - i ∧ Sl M' 6 x.length (.slice a x.length c) (x.flatMap Nd.cells) ∧ St w M0 w' M' (.box pb [str s, i64 (j)] 55 :: Rs)) (valT f s i d))
/- (*loupe/text.parser).list$1 -/
theorem listpart_c {w wv : World} {M0 M : Mem} {Rs : List HO} (s : Str) (i d : Int) (pb bl b2 b3 : Nat) (v : Value) (rs : List SlH) (xs : List Vl) (f : Nat) (i0 : Int) (hS : St w M0 wv M (.box pb [(str s), (i64 i)] 55 :: .box bl [v] 47 :: .own 24 1 v rs.length (rs.flatMap valI) :: .box b2 [(.pointer (some ⟨pb, 0, none⟩))] 53 :: .box b3 [(i64 d)] 3 :: Rs)) (hrow : RowsV M 6 Nd.cells rs xs) (hlx : len xs ≤ i ∧ len xs.flatten + 1 ≤ i - i0) (h0 : 0 ≤ i) (h1 : i ≤ len s) (hb : len s ≤ 1099511627776) (hd : 0 ≤ d ∧ d ≤ 900) (hf : 2 * (len s - i) + 1 ≤ f) (hval : ValOK w M0 s pb f) :
  Calls Tryz.prog 73 [(.pointer (some ⟨bl, 0, none⟩)), (.pointer (some ⟨b2, 0, none⟩)), (.pointer (some ⟨b3, 0, none⟩))].toArray wv fun e w' => PPost w M0 M Rs 51 (fun x j v M' w' => i + 1 ≤ j ∧ j ≤ len s ∧ (len x ≤ j ∧ len x.flatten + 1 ≤ j - i0) ∧ ∃ v2 rs2, RowsV M' 6 Nd.cells rs2 x ∧ St w M0 w' M' (.box pb [str s, i64 j] 55 :: .box bl [v2] 47 :: .own 24 1 v2 rs2.length (rs2.flatMap valI) :: .box b2 [.pointer (some ⟨pb, 0, none⟩)] 53 :: .box b3 [i64 d] 3 :: Rs)) (mapR (fun y => xs ++ [y]) (valT f s i (d + 1))) e w' := by
 refine CW.enter1 Tryz.func73 rfl Tryz.ntmps73 (Nat.le_of_ble_eq_true rfl) fun Q hE => ?_
 have hhl : len rs = len xs := by unfold len; rw [hrow.len]
 refine CW.weaken [0, 1, 2] (L' := [Y 0 (.pointer (some ⟨bl, 0, none⟩)), Y 1 (.pointer (some ⟨b2, 0, none⟩)), Y 2 (.pointer (some ⟨b3, 0, none⟩))]) ?_ rfl
 refine CW.weaken [0, 1, 2] (L' := [Y 0 (.pointer (some ⟨bl, 0, none⟩)), Y 1 (.pointer (some ⟨b2, 0, none⟩)), Y 2 (.pointer (some ⟨b3, 0, none⟩))]) ?_ rfl
 replace hS := (hS.front 4 rfl rfl).front 4 rfl rfl
 replace hS := hS.front 3 rfl rfl
 refine CW.regionG (HsQ := [.box bl [v] 47, .box b2 [(.pointer (some ⟨pb, 0, none⟩))] 53, .box b3 [(i64 d)] 3]) 7 [.is true v, .is true (.pointer (some ⟨pb, 0, none⟩)), .is true (i64 d), .is true (i64 (d + 1)), .any, .any, .any, .any] [(7, ⟨fun vz M X => ∃ x3 j4 a1 c2, valT f s i (d + 1) = .ok x3 j4 ∧ i + 1 ≤ j4 ∧ j4 ≤ len s ∧ len x3 ≤ j4 - i ∧ Sl M 6 x3.length (.slice a1 x3.length c2) (x3.flatMap Nd.cells) ∧ vz = (.slice a1 x3.length c2) ∧ X = (.box pb [(str s), (i64 j4)] 55 :: .own 24 1 v rs.length (rs.flatMap valI) :: Rs), fun hm h => by obtain ⟨x3, j4, a1, c2, hr8, hF11a, hF11b, hF11c, hsl_v5, hvz, e⟩ := h; exact ⟨x3, j4, a1, c2, hr8, hF11a, hF11b, hF11c, hsl_v5.mono hm, hvz, e⟩⟩), (8, ⟨fun vz M X => ∃ x3 j4 a1 c2, valT f s i (d + 1) = .ok x3 j4 ∧ i + 1 ≤ j4 ∧ j4 ≤ len s ∧ len x3 ≤ j4 - i ∧ Sl M 6 x3.length (.slice a1 x3.length c2) (x3.flatMap Nd.cells) ∧ X = (.own 24 1 vz (([(SlH.mk a1 x3.length c2)] : List SlH)).length ((([(SlH.mk a1 x3.length c2)] : List SlH)).flatMap valI) :: .box pb [(str s), (i64 j4)] 55 :: .own 24 1 v rs.length (rs.flatMap valI) :: Rs), fun hm h => by obtain ⟨x3, j4, a1, c2, hr8, hF11a, hF11b, hF11c, hsl_v5, e⟩ := h; exact ⟨x3, j4, a1, c2, hr8, hF11a, hF11b, hF11c, hsl_v5.mono hm, e⟩⟩), (9, ⟨fun vz M X => ∃ x3 j4 a1 c2, valT f s i (d + 1) = .ok x3 j4 ∧ i + 1 ≤ j4 ∧ j4 ≤ len s ∧ len x3 ≤ j4 - i ∧ Sl M 6 x3.length (.slice a1 x3.length c2) (x3.flatMap Nd.cells) ∧ X = (.box pb [(str s), (i64 j4)] 55 :: .own 24 1 vz (rs ++ [(SlH.mk a1 x3.length c2)]).length ((rs ++ [(SlH.mk a1 x3.length c2)]).flatMap valI) :: Rs), fun hm h => by obtain ⟨x3, j4, a1, c2, hr8, hF11a, hF11b, hF11c, hsl_v5, e⟩ := h; exact ⟨x3, j4, a1, c2, hr8, hF11a, hF11b, hF11c, hsl_v5.mono hm, e⟩⟩)] (.box pb [(str s), (i64 i)] 55 :: .own 24 1 v rs.length (rs.flatMap valI) :: Rs) [none, none, none, none, some 0, some 1, some 2] hS tryz_mixed [0, 1, 2] rfl (by decide +kernel) (by decide +kernel) rfl rfl (by decide +kernel) (by decide +kernel) [7, 8, 9] rfl (by decide +kernel) (.cons ?_ (.cons ?_ (.cons ?_ (.cons ?_ (.cons ?_ (.cons ?_ (.cons ?_ (.cons ?_ (.nil)))))))))
 ·intro LL w1 M2 X hle4 hS3 hK hD
  replace hrow := hrow.mono hle4
  refine RL.u (.loadB1 (v := v) hS3 extEq (i := 0) rfl (.t (hK _ _ rfl)) Tryz.isAgg47 rfl) rfl ?_
  exact RL.nil (RA.next fun a hs => ⟨_, _, Mem.le.refl _, hS3, hs, _, _, rfl, rfl, rfl⟩)
 ·intro LL w5 M6 X hle8 hS7 hK hD
  replace hrow := hrow.mono hle8
  refine RL.u (.loadB1 (v := (.pointer (some ⟨pb, 0, none⟩))) hS7 extEq (i := 1) rfl (.t (hK _ _ rfl)) Tryz.isAgg53 rfl) rfl ?_
  exact RL.nil (RA.next fun a hs => ⟨_, _, Mem.le.refl _, hS7, hs, _, _, rfl, rfl, rfl⟩)
 ·intro LL w9 M10 X hle12 hS11 hK hD
  replace hrow := hrow.mono hle12
  refine RL.u (.loadB1 (v := (i64 d)) hS11 extEq (i := 2) rfl (.t (hK _ _ rfl)) Tryz.isAgg3 rfl) rfl ?_
  exact RL.nil (RA.next fun a hs => ⟨_, _, Mem.le.refl _, hS11, hs, _, _, rfl, rfl, rfl⟩)
 ·intro LL w13 M14 X hle16 hS15 hK hD
  replace hrow := hrow.mono hle16
  obtain ⟨g5, v5, hl5, rfl, rfl⟩ := hD 2 (by decide +kernel)
  refine RL.u (.add (.t hl5) .c (fun _ => by omega)) rfl ?_
  exact RL.nil (RA.next fun a hs => ⟨_, _, Mem.le.refl _, hS15, hs, _, _, rfl, rfl, rfl⟩)
 ·intro LL w17 M18 X hle20 hS19 hK hD hX
  replace hrow := hrow.mono hle20
  obtain rfl : (.box pb [(str s), (i64 i)] 55 :: .own 24 1 v rs.length (rs.flatMap valI) :: Rs) = X := Eq.symm hX
  obtain ⟨g4, v4, hl4, rfl, rfl⟩ := hD 1 (by decide +kernel)
  obtain ⟨g6, v6, hl6, rfl, rfl⟩ := hD 3 (by decide +kernel)
  replace hS19 := hS19.front 3 rfl rfl
  refine RL.callR Tryz.call27 (.cons (.t hl4) (.cons (.t hl6) .nil)) (hval (Rs := (.box bl [v] 47 :: .box b2 [(.pointer (some ⟨pb, 0, none⟩))] 53 :: .box b3 [(i64 d)] 3 :: .own 24 1 v rs.length (rs.flatMap valI) :: Rs)) i (d + 1) hS19 (by omega) (by omega) (by omega) (by omega) (by omega)) rfl (fun ec p M32 w33 hr36 hS34 hle35 => ?_) (fun x23 j24 v25 M27 w26 hr28 hF31 hle30 => ?_)
  ·replace hS34 := hS34.drop Rs (List.sublist_append_right [_, _, _, _] _)
   exact hE.p (PPost.er (show mapR _ _ = _ from by rw [hr36]; rfl) hS34 (hle20.trans hle35))
  obtain ⟨a21, c22, rfl, hF31a, hF31b, hF31c, hsl_v25, hS29⟩ := hF31
  replace hrow := hrow.mono hle30
  replace hS29 := (hS29.front 3 rfl rfl).front 3 rfl rfl
  replace hS29 := hS29.front 3 rfl rfl
  exact RL.nil (RA.next fun a hs => ⟨_, _, (.box pb [(str s), (i64 j24)] 55 :: .own 24 1 v rs.length (rs.flatMap valI) :: Rs), hle30, hS29, hs, ⟨_, _, rfl, trivial⟩, ⟨_, rfl, x23, j24, a21, c22, hr28, hF31a, hF31b, hF31c, hsl_v25, rfl, rfl⟩⟩)
 ·intro LL w37 M38 X hle40 hS39 hK hD hX
  replace hrow := hrow.mono hle40
  obtain ⟨vx41, hl7, x3, j4, a1, c2, hr8, hF11a, hF11b, hF11c, hsl_v5, rfl, rfl⟩ := hX
  refine RL.buildSlice (n := 1) (sz := 1) (e := 24) (vs := [(0, (.slice a1 x3.length c2))]) (cs := [(.slice a1 x3.length c2)]) hS39 (.cons (.t hl7) .nil) rfl rfl (fun w => by kernel_rfl) rfl (fun v42 w43 M44 hS45 hle46 => ?_)
  replace hrow := hrow.mono hle46
  replace hsl_v5 := hsl_v5.mono hle46
  replace hS45 := (hS45.front 3 rfl rfl).front 3 rfl rfl
  replace hS45 := hS45.front 3 rfl rfl
  exact RL.nil (RA.next fun a hs => ⟨_, _, (.own 24 1 v42 (([(SlH.mk a1 x3.length c2)] : List SlH)).length ((([(SlH.mk a1 x3.length c2)] : List SlH)).flatMap valI) :: .box pb [(str s), (i64 j4)] 55 :: .own 24 1 v rs.length (rs.flatMap valI) :: Rs), hle46, hS45, hs, ⟨_, _, rfl, trivial⟩, ⟨_, rfl, x3, j4, a1, c2, hr8, hF11a, hF11b, hF11c, hsl_v5, rfl⟩⟩)
 ·intro LL w47 M48 X hle50 hS49 hK hD hX
  replace hrow := hrow.mono hle50
  obtain ⟨vx51, hl8, x3, j4, a1, c2, hr8, hF11a, hF11b, hF11c, hsl_v5, rfl⟩ := hX
  obtain ⟨g3, v3, hl3, rfl, hv3⟩ := hD 0 (by decide +kernel)
  subst v3
  refine RL.append1 (f := valI) (l := rs) (y := (SlH.mk a1 x3.length c2)) hS49 (k := 5) rfl (.t hl3) (.t hl8) (hS49.sl (i := 3) rfl) Tryz.underlying47 Tryz.type24 rfl rfl rfl valI_one (by' := 24) rfl rfl (by omega) rfl (Hs' := fun v' => (.box bl [v] 47 :: .box b2 [(.pointer (some ⟨pb, 0, none⟩))] 53 :: .box b3 [(i64 d)] 3 :: .own 24 1 vx51 (([(SlH.mk a1 x3.length c2)] : List SlH)).length ((([(SlH.mk a1 x3.length c2)] : List SlH)).flatMap valI) :: .box pb [(str s), (i64 j4)] 55 :: .own 24 1 v' (rs ++ [(SlH.mk a1 x3.length c2)]).length ((rs ++ [(SlH.mk a1 x3.length c2)]).flatMap valI) :: Rs)) (fun _ => rfl) (fun v52 w53 M54 hS55 hle56 => ?_)
  replace hS55 := hS55.erase 3 rfl
  replace hrow := hrow.mono hle56
  replace hsl_v5 := hsl_v5.mono hle56
  replace hS55 := (hS55.front 2 rfl rfl).front 2 rfl rfl
  replace hS55 := hS55.front 2 rfl rfl
  exact RL.nil (RA.next fun a hs => ⟨_, _, (.box pb [(str s), (i64 j4)] 55 :: .own 24 1 v52 (rs ++ [(SlH.mk a1 x3.length c2)]).length ((rs ++ [(SlH.mk a1 x3.length c2)]).flatMap valI) :: Rs), hle56, hS55, hs, ⟨_, _, rfl, trivial⟩, ⟨_, rfl, x3, j4, a1, c2, hr8, hF11a, hF11b, hF11c, hsl_v5, rfl⟩⟩)
 ·intro LL w57 M58 X hle60 hS59 hK hD hX
  replace hrow := hrow.mono hle60
  obtain ⟨vx61, hl9, x3, j4, a1, c2, hr8, hF11a, hF11b, hF11c, hsl_v5, rfl⟩ := hX
  refine RL.storeS (v := vx61) hS59 (hS59.sl (i := 4) rfl) (i := 0) rfl (.t (hK _ _ rfl)) (.t hl9) Tryz.sizeOf47 rfl (cs' := [vx61]) rfl (Hs' := (.box bl [vx61] 47 :: .box b2 [(.pointer (some ⟨pb, 0, none⟩))] 53 :: .box b3 [(i64 d)] 3 :: .box pb [(str s), (i64 j4)] 55 :: .own 24 1 vx61 (rs ++ [(SlH.mk a1 x3.length c2)]).length ((rs ++ [(SlH.mk a1 x3.length c2)]).flatMap valI) :: Rs)) rfl (fun w62 hS63 => ?_)
  refine RL.nil (slots_sub (E := [Y 0 (.pointer (some ⟨bl, 0, none⟩)), Y 1 (.pointer (some ⟨b2, 0, none⟩)), Y 2 (.pointer (some ⟨b3, 0, none⟩))]) (.cons (hK _ _ rfl) (.cons (hK _ _ rfl) (.cons (hK _ _ rfl) .nil))) ?_)
  replace hS63 := (hS63.front 2 rfl rfl).front 2 rfl rfl
  replace hS63 := (hS63.front 4 rfl rfl).front 3 rfl rfl
  replace hS63 := hS63.front 4 rfl rfl
  refine  (hE.e0 rfl ?_)
  exact PPost.ok (show mapR _ _ = _ from by rw [hr8]; rfl) ⟨by omega, by omega, by rw [List.flatten_append]; simp only [len_app, len_cons, len_nil, List.flatten_cons, List.flatten_nil]; omega, _, _, RowsV.snoc hsl_v5 hrow, hS63⟩ hle60

end Go.Proofs.YtjfaikgooldcbaaGreatDoor
namespace Go.Eng
open Go.RowKit

structure SV where
  key : Str
  val : Value
  born : Nat
def SV.ent (p : SV) : MapEntry := { key := str p.key, val := p.val, born := p.born }
def smobj (l : List SV) (clock : Nat) : Obj := .map ⟨l.map SV.ent⟩ clock
def sget : List SV → Str → Option Value
  | [], _ => none
  | p :: l, x => if x == p.key then some p.val else sget l x
def sput : List SV → Str → Value → Option (List SV)
  | [], _, _ => none
  | p :: l, x, v => if x == p.key then some (⟨x, v, p.born⟩ :: l) else (sput l x v).map (p :: ·)
def sset (l : List SV) (c : Nat) (x : Str) (v : Value) : List SV := match sput l x v with | some l' => l' | none => l ++ [⟨x, v, c⟩]
def sclk (l : List SV) (c : Nat) (x : Str) (v : Value) : Nat := match sput l x v with | some _ => c | none => c + 1
def sdel : List SV → Str → List SV
  | [], _ => []
  | p :: l, x => if x == p.key then l else p :: sdel l x
def sfind : List SV → Str → Nat → Option (Nat × Value)
  | [], _, _ => none
  | p :: l, x, i => if x == p.key then some (i, p.val) else sfind l x (i + 1)
theorem str_beq (x y : Str) : ((⟨⟨x⟩⟩ : ByteArray) == ⟨⟨y⟩⟩) = (x == y) := by
  show ((⟨x⟩ : Array UInt8) == ⟨y⟩) = (x == y)
  simp
theorem findNow_sent (x : Str) : ∀ (l : List SV) (i : Nat), Instr.findNow .string (str x) (l.map SV.ent) i = some (sfind l x i)
  | [], _ => rfl
  | p :: l, i => by
    simp only [List.map_cons, Instr.findNow, SV.ent, Instr.sameNow, sfind, str_beq]
    by_cases h : (x == p.key) = true
    · rw [h]; rfl
    · rw [Bool.not_eq_true] at h; rw [h]; exact findNow_sent x l (i + 1)
theorem sfind_get (x : Str) : ∀ (l : List SV) (i : Nat), (sfind l x i).map (·.2) = sget l x
  | [], _ => rfl
  | p :: l, i => by
    simp only [sfind, sget]; split
    · rfl
    · exact sfind_get x l (i + 1)
theorem sfind_put (x : Str) (v : Value) : ∀ (l : List SV) (i : Nat), (sfind l x i = none ∧ sput l x v = none) ∨ ∃ j u p l', sfind l x i = some (i + j, u) ∧ l[j]? = some p ∧ x = p.key ∧ sput l x v = some l' ∧ l' = l.modify j (fun p => ⟨x, v, p.born⟩)
  | [], _ => .inl ⟨rfl, rfl⟩
  | p :: l, i => by
    by_cases h : (x == p.key) = true
    · refine .inr ⟨0, p.val, p, ⟨x, v, p.born⟩ :: l, ?_, rfl, by simpa using h, ?_, by simp⟩
      · simp only [sfind, h, if_true]; rfl
      · simp only [sput, h, if_true]
    · rcases sfind_put x v l (i + 1) with ⟨h1, h2⟩ | ⟨j, u, q, l', h1, h2, h3, h4, h5⟩
      · refine .inl ⟨?_, ?_⟩
        · simp only [sfind, h]; exact h1
        · simp only [sput, h, h2]; rfl
      · refine .inr ⟨j + 1, u, q, p :: l', ?_, by simpa using h2, h3, ?_, ?_⟩
        · simp only [sfind, h]; rw [show i + (j + 1) = i + 1 + j from by omega]; exact h1
        · simp only [sput, h, h4]; rfl
        · subst h5; simp
theorem sfind_del (x : Str) : ∀ (l : List SV) (i : Nat), (sfind l x i = none ∧ sdel l x = l) ∨ ∃ j u, sfind l x i = some (i + j, u) ∧ j < l.length ∧ sdel l x = l.eraseIdx j
  | [], _ => .inl ⟨rfl, rfl⟩
  | p :: l, i => by
    by_cases h : (x == p.key) = true
    · exact .inr ⟨0, p.val, by simp only [sfind, h, if_true]; rfl, by simp, by simp only [sdel, h, if_true]; rfl⟩
    · rcases sfind_del x l (i + 1) with ⟨h1, h2⟩ | ⟨j, u, h1, h2, h3⟩
      · exact .inl ⟨by simp only [sfind, h]; exact h1, by simp only [sdel, h, h2]; rfl⟩
      · refine .inr ⟨j + 1, u, ?_, by simp; omega, ?_⟩
        · simp only [sfind, h]; rw [show i + (j + 1) = i + 1 + j from by omega]; exact h1
        · simp only [sdel, h, h3]; simp
theorem run_scheckKey {P : Program} {t : TypeId} (h : P.underlying t = some .string) (b : Bool) (x : Str) (w : World) : (Instr.checkKey b 10000 t (str x)).run P w = .ok () w := by
  show (Instr.checkKey b (9999 + 1) t (str x)).run P w = .ok () w
  unfold Instr.checkKey
  rw [Sem.run_bind, run_underlying h]; rfl
theorem run_sfindKey {P : Program} {t : TypeId} (h : P.underlying t = some .string) (x : Str) (l : List SV) (w : World) : (Instr.findKey t (str x) (l.map SV.ent)).run P w = .ok (sfind l x 0) w := by
  simp only [Instr.findKey, Sem.run_bind, run_underlying h, Result.andThen_ok, findNow_sent]; rfl
theorem run_sgetMap {P : Program} {w : World} {b : Nat} {l : List SV} {c : Nat} (h : w.heap[b]? = some (smobj l c)) : (getObj b).run P w = .ok (smobj l c) w := by
  simp [getObj, Sem.run, h, smobj]
theorem run_ssetMap {P : Program} {w : World} {b : Nat} {l : List SV} {c : Nat} (h : w.heap[b]? = some (smobj l c)) (o' : Obj) : (setObj b o').run P w = .ok () (setObjAt w b o') := by
  simp [setObj, Sem.run, h, setObjAt, smobj]

theorem run_slookup {P : Program} {w : World} {b : Nat} {l : List SV} {c : Nat} {t kt e : TypeId} {z : Value} {x : Str} {ok : Bool} (ht : P.underlying t = some (.map kt e)) (hk : P.underlying kt = some .string) (hz : ∀ w, (zeroValue e).run P w = .ok z w)
    (h : w.heap[b]? = some (smobj l c)) : (Instr.lookup t (.map (some b)) (str x) ok).run P w = .ok (if ok then .tuple #[(sget l x).getD z, .bool (sget l x).isSome] else (sget l x).getD z) w := by
  simp only [Instr.lookup, Sem.run_bind, run_underlying ht, Result.andThen_ok, run_sgetMap h, smobj, Sem.run_pure, run_scheckKey hk, run_sfindKey hk]
  have hg := sfind_get x l 0
  cases hf : sfind l x 0 with
  | none => rw [hf] at hg; rw [← hg]; simp [Sem.run_bind, hz]
  | some q => rw [hf] at hg; rw [← hg]; simp
theorem run_skeyStays {P : Program} {w : World} (x : Str) : (Instr.keyThatStays (str x) (str x)).run P w = .ok (str x) w := by
  unfold Instr.keyThatStays
  rw [show Instr.sameBits 10000 (str x) (str x) = true from by simp [Instr.sameBits, str_beq]]; rfl
theorem run_smapUpdate {P : Program} {w : World} {b : Nat} {l : List SV} {c : Nat} {t kt e : TypeId} {x : Str} {v : Value} (ht : P.underlying t = some (.map kt e)) (hk : P.underlying kt = some .string)
    (h : w.heap[b]? = some (smobj l c)) : (Instr.mapUpdate t (.map (some b)) (str x) v).run P w = .ok () (setObjAt w b (smobj (sset l c x v) (sclk l c x v))) := by
  simp only [Instr.mapUpdate, Sem.run_bind, run_underlying ht, Result.andThen_ok, run_sgetMap h, smobj, run_scheckKey hk, run_sfindKey hk]
  rcases sfind_put x v l 0 with ⟨h1, h2⟩ | ⟨j, u, p, l', h1, h2, h3, h4, h5⟩
  · rw [h1]
    simp only [sset, sclk, h2]
    rw [run_ssetMap h]; simp [SV.ent]
  · rw [h1]
    have e1 : ((l.map SV.ent).toArray[0 + j]?) = some (SV.ent p) := by simp [h2]
    have e2 : (Array.mk (l.map SV.ent))[0 + j]? = some (SV.ent p) := e1
    simp only [Sem.run_bind, e2, Option.map_some, Option.getD_some]
    rw [show (SV.ent p).key = str x from by rw [h3]; rfl, run_skeyStays]
    simp only [Result.andThen_ok, sset, sclk, h4]
    rw [run_ssetMap h]
    congr 3
    subst h5
    rw [Nat.zero_add]
    apply Array.ext'
    rw [Array.toList_modify]
    exact map_modify' SV.ent _ _ (fun x => rfl) l j

section rl
variable {P : Program} {ops : Array Oper} {Q : Exit → Act → World → Prop} {N : Nat} {rest : List Oper} {L : Env} {w0 w : World} {M0 M : Mem} {Hs : List HO} {d : Nat} {ty : TypeId} {ps : String} {af : Array Edge}
theorem RL.smakeMap {t : TypeId} (hS : St w0 M0 w M Hs) (hd : Nat.blt d N = true)
    (h : ∀ w' b, St w0 M0 w' M (.raw b (smobj [] 0) :: Hs) → RL P ops Q N rest ((d, true, .map (some b)) :: L) w') : RL P ops Q N (⟨some d, .makeMap t none, ty, ps, af, none⟩ :: rest) L w := by
  intro a hs
  refine wpList_plain rfl fun K hK => ?_
  have key : (execOp a.eval ⟨some d, .makeMap t none, ty, ps, af, none⟩).run P w = .ok (.value (.map (some w.heap.size))) (w.alloc (.map #[] 0)) := rfl
  simp only [Oper.wp, key, Oper.upon_value]
  exact hK _ _ (h _ _ (hS.newRaw (smobj [] 0)) _ (hs.put hd true _))
theorem RL.smapUpdate {t kt e : TypeId} {m x y : Operand} {i b c c' : Nat} {l l' : List SV} {n : Str} {v : Value} {Hs' : List HO} (ins : Bool) (hS : St w0 M0 w M Hs) (hi : Hs[i]? = some (.raw b (smobj l c))) (hm : Opd L true m (.map (some b))) (hx : Opd L true x (str n)) (hy : Opd L true y v)
    (ht : P.underlying t = some (.map kt e)) (hk : P.underlying kt = some .string) (hl : sset l c n v = l') (hc : sclk l c n v = c') (hHs : Hs.set i (.raw b (smobj l' c')) = Hs')
    (h : ∀ w', St w0 M0 w' M Hs' → RL P ops Q N rest L w') : RL P ops Q N (⟨none, if ins then .insert t m x y else .mapUpdate t m x y, ty, ps, af, none⟩ :: rest) L w := by
  intro a hs
  refine wpList_plain rfl fun K hK => ?_
  have hb := (hS.obj hi).2.1
  have key : (execOp a.eval ⟨none, if ins then .insert t m x y else .mapUpdate t m x y, ty, ps, af, none⟩).run P w = .ok .skip (setObjAt w b (smobj l' c')) := by
    have := run_smapUpdate (P := P) (x := n) (v := v) ht hk hb
    cases ins <;> simp only [execOp, hm a N hs rfl, hx a N hs rfl, hy a N hs rfl, Bool.false_eq_true, if_true, if_false] <;> rw [Sem.run_bind, this, hl, hc] <;> rfl
  simp only [Oper.wp, key, Oper.upon_skip]
  exact hK _ _ (h _ (hHs ▸ hS.setRaw hi _) _ hs)
theorem RL.srangeM {t kt e : TypeId} {x : Operand} {i b c : Nat} {l : List SV} (hS : St w0 M0 w M Hs) (hi : Hs[i]? = some (.raw b (smobj l c))) (hx : Opd L true x (.map (some b))) (ht : P.underlying t = some (.map kt e)) (hd : Nat.blt d N = true)
    (h : ∀ w' r, St w0 M0 w' M (.raw r (.mapIter (some b) c #[] c) :: Hs) → RL P ops Q N rest ((d, true, .pointer (some ⟨r, 0, none⟩)) :: L) w') : RL P ops Q N (⟨some d, .range t x, ty, ps, af, none⟩ :: rest) L w := by
  intro a hs
  refine wpList_plain rfl fun K hK => ?_
  have hb := (hS.obj hi).2.1
  have key : (execOp a.eval ⟨some d, .range t x, ty, ps, af, none⟩).run P w = .ok (.value (.pointer (some ⟨w.heap.size, 0, none⟩))) (w.alloc (.mapIter (some b) c #[] c)) := by
    simp only [execOp, hx a N hs rfl]; rw [Sem.run_bind, run_range_map w t kt e b _ _ ht hb]; rfl
  simp only [Oper.wp, key, Oper.upon_value]
  exact hK _ _ (h _ _ (hS.newRaw _) _ (hs.put hd true _))
/-- The next entry, whichever it is. -/
theorem RL.snextM {x : Operand} {i j b r c since c0 : Nat} {seen : Array Nat} {l : List SV} (hS : St w0 M0 w M Hs) (hi : Hs[i]? = some (.raw b (smobj l c))) (hj : Hs[j]? = some (.raw r (.mapIter (some b) since seen c0))) (hx : Opd L true x (.pointer (some ⟨r, 0, none⟩)))
    (hold : ∀ p ∈ l, p.born < since) (hsc : since ≤ c0) (hd : Nat.blt d N = true)
    (h1 : ∀ p ∈ l, ¬ seen.contains p.born = true → ∀ w', St w0 M0 w' M (Hs.set j (.raw r (.mapIter (some b) since (seen.push p.born) c))) → RL P ops Q N rest ((d, true, .tuple #[.bool true, str p.key, p.val]) :: L) w')
    (h2 : (∀ p ∈ l, seen.contains p.born = true) → RL P ops Q N rest ((d, true, .tuple #[.bool false]) :: L) w) : RL P ops Q N (⟨some d, .next x false, ty, ps, af, none⟩ :: rest) L w := by
  intro a hs
  refine wpList_plain rfl fun K hK => ?_
  have hb := (hS.obj hi).2.1
  have hr := (hS.obj hj).2.1
  rcases run_next_at (P := P) w ty r b since c0 seen ⟨l.map SV.ent⟩ c hr hb (by intro x hx; simp only [List.mem_map] at hx; obtain ⟨p, hp, rfl⟩ := hx; exact hold p hp) hsc with ⟨he, hrun⟩ | ⟨en, hen, w1, hw1, hrun⟩
  · have key : (execOp a.eval ⟨some d, .next x false, ty, ps, af, none⟩).run P w = .ok (.value (.tuple #[.bool false])) w := by
      simp only [execOp, hx a N hs rfl]; rw [Sem.run_bind, hrun]; rfl
    simp only [Oper.wp, key, Oper.upon_value]
    refine hK _ _ (h2 ?_ _ (hs.put hd true _))
    intro p hp
    by_cases hc : seen.contains p.born = true
    · exact hc
    · exfalso
      have : (leftOf ⟨l.map SV.ent⟩ seen).size = 0 := he
      unfold leftOf at this
      rw [Array.size_eq_zero_iff, Array.filter_eq_empty_iff] at this
      have := this (SV.ent p) (by simp only [List.mem_toArray, Array.mem_def, List.mem_map]; exact ⟨p, hp, rfl⟩)
      apply this; show (!seen.contains p.born) = true
      simpa using hc
  · unfold leftOf at hen
    simp only [Array.toList_filter, List.mem_filter, List.mem_map, Bool.not_eq_true'] at hen
    obtain ⟨⟨p, hp, rfl⟩, hns⟩ := hen
    have key : (execOp a.eval ⟨some d, .next x false, ty, ps, af, none⟩).run P w = .ok (.value (.tuple #[.bool true, str p.key, p.val])) (setObjAt w1 r (.mapIter (some b) since (seen.push p.born) c)) := by
      simp only [execOp, hx a N hs rfl]; rw [Sem.run_bind, hrun]; rfl
    simp only [Oper.wp, key, Oper.upon_value]
    have hS1 : St w0 M0 w1 M Hs := by rcases hw1 with rfl | rfl; exact hS; exact hS.ext (Ext.drew _)
    exact hK _ _ (h1 p hp (by show ¬ seen.contains p.born = true; have : seen.contains p.born = false := hns; rw [this]; simp) _ (hS1.setRaw hj _) _ (hs.put hd true _))
end rl
section pv
variable {P : Program} {C : World → Prop} {L : Env} {W : Bool} {d : Option Tmp} {ty : TypeId} {ps : String} {af : Array Edge} {gd : Option (Nat × Bool)} {w0 w : World} {M0 M : Mem} {Hs : List HO}
theorem PV.sentry {x : Operand} {i j b r c since : Nat} {seen : Array Nat} {l : List SV} {p : SV} (hS : St w0 M0 w M Hs) (hC : ∀ w', C w' → Ext w w') (hi : Hs[i]? = some (.raw b (smobj l c))) (hj : Hs[j]? = some (.raw r (.mapIter (some b) since (seen.push p.born) c))) (hx : Opd L W x (.pointer (some ⟨r, 0, none⟩)))
    (hp : p ∈ l) (hn : (l.map (·.born)).Nodup) : PV P C L W ⟨d, .entry x, ty, ps, af, gd⟩ (.tuple #[str p.key, p.val]) := by
  intro a N hs hW w' hw'
  have hS' := hS.ext (hC w' hw')
  have hb := (hS'.obj hi).2.1
  have hr := (hS'.obj hj).2.1
  have := run_entry_at (P := P) w' r b since seen ⟨l.map SV.ent⟩ c (SV.ent p) hr hb (List.mem_map.2 ⟨p, hp, rfl⟩) (by simpa [List.map_map, Function.comp_def, SV.ent] using hn)
  simp only [execOp, hx a N hs hW]; rw [Sem.run_bind, this]; rfl
theorem PV.slookup {t kt e : TypeId} {x y : Operand} {i b c : Nat} {l : List SV} {n : Str} {z v : Value} (hS : St w0 M0 w M Hs) (hC : ∀ w', C w' → Ext w w') (hi : Hs[i]? = some (.raw b (smobj l c))) (hx : Opd L W x (.map (some b))) (hy : Opd L W y (str n))
    (ht : P.underlying t = some (.map kt e)) (hk : P.underlying kt = some .string) (hz : ∀ w, (zeroValue e).run P w = .ok z w) (hv : (sget l n).getD z = v) : PV P C L W ⟨d, .lookup t x y false, ty, ps, af, gd⟩ v := by
  intro a N hs hW w' hw'
  have hb := ((hS.ext (hC w' hw')).obj hi).2.1
  have := run_slookup (P := P) (x := n) (ok := false) ht hk hz hb
  simp only [execOp, hx a N hs hW, hy a N hs hW]; rw [Sem.run_bind, this, ← hv]; rfl
theorem PV.slookupOk {t kt e : TypeId} {x y : Operand} {i b c : Nat} {l : List SV} {n : Str} {z v : Value} {q : Bool} (hS : St w0 M0 w M Hs) (hC : ∀ w', C w' → Ext w w') (hi : Hs[i]? = some (.raw b (smobj l c))) (hx : Opd L W x (.map (some b))) (hy : Opd L W y (str n))
    (ht : P.underlying t = some (.map kt e)) (hk : P.underlying kt = some .string) (hz : ∀ w, (zeroValue e).run P w = .ok z w) (hv : (sget l n).getD z = v) (hq : (sget l n).isSome = q) : PV P C L W ⟨d, .lookup t x y true, ty, ps, af, gd⟩ (.tuple #[v, .bool q]) := by
  intro a N hs hW w' hw'
  have hb := ((hS.ext (hC w' hw')).obj hi).2.1
  have := run_slookup (P := P) (x := n) (ok := true) ht hk hz hb
  simp only [execOp, hx a N hs hW, hy a N hs hW]; rw [Sem.run_bind, this, ← hv, ← hq]; rfl
end pv
end Go.Eng
namespace Go.Eng
open Go.RowKit

def MapV (M : Mem) : List SV → List (Str × Vl) → Prop
  | [], [] => True
  | p :: l, q :: m => p.key = q.1 ∧ (∃ h : SlH, p.val = h.v ∧ Sl M 6 q.2.length h.v (q.2.flatMap Nd.cells)) ∧ MapV M l m
  | _, _ => False
/-- Births: all before the clock, none twice. -/
def BornOK (l : List SV) (c : Nat) : Prop := (∀ p ∈ l, p.born < c) ∧ (l.map (·.born)).Nodup
theorem MapV.mono {M M' : Mem} (hm : M.le M') : ∀ {l : List SV} {m : List (Str × Vl)}, MapV M l m → MapV M' l m
  | [], [], _ => trivial
  | _ :: _, _ :: _, ⟨h1, ⟨h, h2, h3⟩, h4⟩ => ⟨h1, ⟨h, h2, h3.mono hm⟩, MapV.mono hm h4⟩
  | [], _ :: _, h => h.elim
  | _ :: _, [], h => h.elim
theorem sput_map {M : Mem} {n : Str} {x : Vl} {h : SlH} (hx : Sl M 6 x.length h.v (x.flatMap Nd.cells)) : ∀ {l : List SV} {m : List (Str × Vl)}, MapV M l m →
    (∃ l', sput l n h.v = some l' ∧ MapV M l' (putV m n x) ∧ l'.map (·.born) = l.map (·.born)) ∨ (sput l n h.v = none ∧ putV m n x = m ++ [(n, x)])
  | [], [], _ => .inr ⟨rfl, rfl⟩
  | [], _ :: _, h => h.elim
  | _ :: _, [], h => h.elim
  | p :: l, q :: m, ⟨h1, h2, h4⟩ => by
    unfold sput putV
    by_cases hk : (n == p.key) = true
    · rw [if_pos hk, if_pos (by rw [← h1]; exact hk)]
      exact .inl ⟨_, rfl, ⟨rfl, ⟨h, rfl, hx⟩, h4⟩, rfl⟩
    · rw [if_neg hk, if_neg (by rw [← h1]; exact hk)]
      rcases sput_map (n := n) hx h4 with ⟨l', e1, e2, e3⟩ | ⟨e1, e2⟩
      · exact .inl ⟨p :: l', by rw [e1]; rfl, ⟨h1, h2, e2⟩, by simp [e3]⟩
      · exact .inr ⟨by rw [e1]; rfl, by rw [e2]; rfl⟩
theorem MapV.snoc {M : Mem} {n : Str} {x : Vl} {h : SlH} {c : Nat} (hx : Sl M 6 x.length h.v (x.flatMap Nd.cells)) : ∀ {l : List SV} {m : List (Str × Vl)}, MapV M l m → MapV M (l ++ [⟨n, h.v, c⟩]) (m ++ [(n, x)])
  | [], [], _ => ⟨rfl, ⟨h, rfl, hx⟩, trivial⟩
  | [], _ :: _, h => h.elim
  | _ :: _, [], h => h.elim
  | _ :: _, _ :: _, ⟨h1, h2, h4⟩ => ⟨h1, h2, MapV.snoc hx h4⟩
theorem MapV.put {M : Mem} {n : Str} {x : Vl} {h : SlH} {c : Nat} {l : List SV} {m : List (Str × Vl)} (hm : MapV M l m) (hx : Sl M 6 x.length h.v (x.flatMap Nd.cells)) : MapV M (sset l c n h.v) (putV m n x) := by
  unfold sset
  rcases sput_map (n := n) hx hm with ⟨l', e1, e2, e3⟩ | ⟨e1, e2⟩
  · rw [e1]; exact e2
  · rw [e1, e2]; exact hm.snoc hx
theorem BornOK.put {M : Mem} {n : Str} {x : Vl} {h : SlH} {c : Nat} {l : List SV} {m : List (Str × Vl)} (hb : BornOK l c) (hm : MapV M l m) (hx : Sl M 6 x.length h.v (x.flatMap Nd.cells)) : BornOK (sset l c n h.v) (sclk l c n h.v) := by
  unfold sset sclk
  rcases sput_map (n := n) hx hm with ⟨l', e1, e2, e3⟩ | ⟨e1, e2⟩
  · rw [e1]
    refine ⟨fun p hp => ?_, by rw [e3]; exact hb.2⟩
    have : p.born ∈ l.map (·.born) := e3 ▸ List.mem_map.2 ⟨p, hp, rfl⟩
    obtain ⟨q, hq, e⟩ := List.mem_map.1 this
    dsimp only; rw [← e]; exact hb.1 q hq
  · rw [e1]
    refine ⟨fun p hp => ?_, ?_⟩
    · rcases List.mem_append.1 hp with hp | hp
      · have := hb.1 p hp; dsimp only; omega
      · simp only [List.mem_singleton] at hp; subst hp; dsimp only; omega
    · dsimp only
      rw [List.map_append, List.nodup_append]
      refine ⟨hb.2, by simp, fun a ha b hb' => ?_⟩
      obtain ⟨q, hq, rfl⟩ := List.mem_map.1 ha
      simp at hb'
      have := hb.1 q hq
      omega
theorem MapV.mem {M : Mem} {p : SV} : ∀ {l : List SV} {m : List (Str × Vl)}, MapV M l m → p ∈ l → ∃ pk ph pb px, p = ⟨pk, SlH.v ph, pb⟩ ∧ (pk, px) ∈ m ∧ Sl M 6 (List.length (α := Nd) px) ph.v (px.flatMap Nd.cells)
  | [], _, _, h => by cases h
  | _ :: _, [], h, _ => h.elim
  | q :: l, r :: m, ⟨h1, ⟨h, h2, h3⟩, h4⟩, hp => by
    rcases List.mem_cons.1 hp with rfl | hp
    · obtain ⟨k, v, b⟩ := p
      dsimp only at h1 h2
      subst h1; subst h2
      exact ⟨_, h, b, r.2, rfl, List.mem_cons_self, h3⟩
    · obtain ⟨pk, ph, pb, px, e1, e2, e3⟩ := MapV.mem h4 hp
      exact ⟨pk, ph, pb, px, e1, List.mem_cons_of_mem _ e2, e3⟩
/-- How many nodes all of the values have. -/
def mapN (m : List (Str × Vl)) : Int := len (m.map (·.2)).flatten
theorem putV_n (n : Str) (x : Vl) : ∀ m : List (Str × Vl), mapN (putV m n x) ≤ mapN m + len x ∧ len (putV m n x) ≤ len m + 1
  | [] => ⟨by simp [mapN, putV, len], by simp [putV, len]⟩
  | p :: m => by
    have ih := putV_n n x m
    unfold putV
    split
    · refine ⟨?_, by unfold len; simp only [List.length_cons]; omega⟩
      unfold mapN; simp only [List.map_cons, List.flatten_cons, len_app]; have := len_nonneg p.2; omega
    · unfold mapN at *; simp only [List.map_cons, List.flatten_cons, len_app, len_cons]; exact ⟨by omega, by omega⟩
end Go.Eng
set_option maxRecDepth 100000
namespace Go.Proofs.YtjfaikgooldcbaaGreatDoor
open Go.Eng

/- (*loupe/text.parser).object$1 -/
theorem objpart_c {w wv : World} {M0 M : Mem} {Rs : List HO} (s : Str) (i d i0 : Int) (pb b2 b3 bm mb : Nat) (l : List SV) (c0 : Nat) (mp : List (Str × Vl)) (f : Nat) (hS : St w M0 wv M (.box pb [(str s), (i64 i)] 55 :: .box b2 [(.pointer (some ⟨pb, 0, none⟩))] 53 :: .box b3 [(i64 d)] 3 :: .box bm [(.map (some mb))] 106 :: .raw mb (smobj l c0) :: Rs)) (hmap : MapV M l mp) (hbo : BornOK l c0) (hlx : len mp ≤ i ∧ mapN mp + 1 ≤ i - i0) (h0 : 0 ≤ i) (h1 : i ≤ len s) (hb : len s ≤ 1099511627776) (hg : Gl w) (hd : 0 ≤ d ∧ d ≤ 900) (hf : 2 * (len s - i) + 1 ≤ f) (hval : ValOK w M0 s pb f) :
  Calls Tryz.prog 75 [(.pointer (some ⟨b2, 0, none⟩)), (.pointer (some ⟨b3, 0, none⟩)), (.pointer (some ⟨bm, 0, none⟩))].toArray wv fun e w' => PPost w M0 M Rs 51 (fun x j v M' w' => i + 1 ≤ j ∧ j ≤ len s ∧ (len x ≤ j ∧ mapN x + 1 ≤ j - i0) ∧ ∃ l2 c2, MapV M' l2 x ∧ BornOK l2 c2 ∧ St w M0 w' M' (.box pb [str s, i64 j] 55 :: .box b2 [.pointer (some ⟨pb, 0, none⟩)] 53 :: .box b3 [i64 d] 3 :: .box bm [.map (some mb)] 106 :: .raw mb (smobj l2 c2) :: Rs)) (pairT s i (fun k => valT f s k (d + 1)) mp) e w' := by
 refine CW.enter1 Tryz.func75 rfl Tryz.ntmps75 (Nat.le_of_ble_eq_true rfl) fun Q hE => ?_
 refine CW.weaken [0, 1, 2] (L' := [Y 0 (.pointer (some ⟨b2, 0, none⟩)), Y 1 (.pointer (some ⟨b3, 0, none⟩)), Y 2 (.pointer (some ⟨bm, 0, none⟩))]) ?_ rfl
 refine CW.sr (RL.u (.loadB1 (v := (.pointer (some ⟨pb, 0, none⟩))) hS extEq (i := 1) rfl (.t rfl) Tryz.isAgg53 rfl) rfl ?_)
 refine RL.callR Tryz.call42 (.cons (.t rfl) .nil) (text_c (Rs := (.box b2 [(.pointer (some ⟨pb, 0, none⟩))] 53 :: .box b3 [(i64 d)] 3 :: .box bm [(.map (some mb))] 106 :: .raw mb (smobj l c0) :: Rs)) s i pb hS (by omega) (by omega) hb hg) rfl (fun ec p M10 w11 hr14 hS12 hle13 => ?_) (fun x1 j2 v3 M5 w4 hr6 hF9 hle8 => ?_)
 ·replace hS12 := hS12.drop Rs (List.sublist_append_right [_, _, _, _] _)
  exact hE.p (PPost.er (by rw [pairT_txt1 hr14]) hS12 hle13)
 obtain ⟨rfl, hF9a, hF9b, hS7⟩ := hF9
 replace hmap := hmap.mono hle8
 refine RL.a rfl rfl ?_
 refine RL.nil (CW.at [Y 0 (.pointer (some ⟨b2, 0, none⟩)), Y 1 (.pointer (some ⟨b3, 0, none⟩)), Y 2 (.pointer (some ⟨bm, 0, none⟩)), Y 3 (str x1)] rfl (CW.sr (RL.u (.loadB1 (v := (.pointer (some ⟨pb, 0, none⟩))) hS7 extEq (i := 1) rfl (.t rfl) Tryz.isAgg53 rfl) rfl ?_)))
 replace hS7 := hS7.front 0 rfl rfl
 refine RL.callP Tryz.call26 (.cons (.t rfl) .nil) (blankP_c (Rs := (.box b2 [(.pointer (some ⟨pb, 0, none⟩))] 53 :: .box b3 [(i64 d)] 3 :: .box bm [(.map (some mb))] 106 :: .raw mb (smobj l c0) :: Rs)) s j2 pb hS7 (by omega) (by omega) hb) rfl ?_
 rintro v16 w17 ⟨⟨ha15a, ha15b⟩, hS19⟩
 refine RL.nil (CW.at [Y 0 (.pointer (some ⟨b2, 0, none⟩)), Y 1 (.pointer (some ⟨b3, 0, none⟩)), Y 2 (.pointer (some ⟨bm, 0, none⟩)), Y 3 (str x1)] rfl (CW.seq (CW.sr (RL.u (.loadB1 (v := (.pointer (some ⟨pb, 0, none⟩))) hS19 extEq (i := 1) rfl (.t rfl) Tryz.isAgg53 rfl) rfl ?_))))
 replace hS19 := hS19.front 0 rfl rfl
 refine RL.callP Tryz.call41 (.cons (.t rfl) (.cons .c .nil)) (isP_c (Rs := (.box b2 [(.pointer (some ⟨pb, 0, none⟩))] 53 :: .box b3 [(i64 d)] 3 :: .box bm [(.map (some mb))] 106 :: .raw mb (smobj l c0) :: Rs)) s [58] (blankTo s j2) pb hS19 (by omega) (by omega) hb) rfl ?_
 rintro v23 w24 ⟨q21, c22, hc22, hq21a, hq21b, hc22y, hc22n, rfl, hS26⟩
 refine RL.u (.not (.t rfl)) rfl ?_
 refine RL.nil (CW.at [Y 0 (.pointer (some ⟨b2, 0, none⟩)), Y 1 (.pointer (some ⟨b3, 0, none⟩)), Y 2 (.pointer (some ⟨bm, 0, none⟩)), Y 3 (str x1), Y 10 (.bool (!c22))] rfl ?_)
 refine CW.cond rfl ?_ ?_ <;> intro hb1 <;> try simp only [zb] at hb1
 ·refine CW.regionT 5 hS26 tryz_mixed (by decide +kernel) (fun w28 hS29 => ?_)
  refine RS.v .none (.loadB1 (v := (.pointer (some ⟨pb, 0, none⟩))) hS29 extEq (i := 1) rfl (.t rfl) Tryz.isAgg53 rfl) rfl ?_
  refine RS.v .none (.loadB1 (v := (.pointer (some ⟨pb, 0, none⟩))) hS29 extEq (i := 1) rfl (.t rfl) Tryz.isAgg53 rfl) rfl ?_
  refine RS.v .none (.nilP (.t rfl)) rfl ?_
  refine RS.v .none (.fldA (q := ⟨pb, 1, none⟩) (.t rfl) (fun w => by kernel_rfl)) rfl ?_
  refine RS.v .none (.loadB1 (v := (i64 q21)) hS29 extEq (i := 0) rfl (.t rfl) Tryz.isAgg3 rfl) rfl ?_
  refine RS.nil ?_
  refine RL.callF Tryz.call28 (.cons (.t rfl) (.cons .c (.cons (.t rfl) .nil))) (fail_c 1 q21 (.pointer (some ⟨pb, 0, none⟩)) _) ?_
  replace hS29 := hS29.drop Rs (List.sublist_append_right [_, _, _, _, _] _)
  exact hE.p (PPost.er (by rw [hc22n hb1]; exact pairT_bad hr6 (hc22.symm.trans hb1)) hS29 hle8)
 ·have hz1 := hc22y hb1
  rw [show len ([58] : Str) = 1 from rfl] at hz1
  have hc22y2 := congrArg (fun z => valT f s (blankTo s z) (d + 1)) hz1
  refine CW.skip (CW.at [Y 0 (.pointer (some ⟨b2, 0, none⟩)), Y 1 (.pointer (some ⟨b3, 0, none⟩)), Y 2 (.pointer (some ⟨bm, 0, none⟩)), Y 3 (str x1)] rfl (CW.sr (RL.u (.loadB1 (v := (.pointer (some ⟨pb, 0, none⟩))) hS26 extEq (i := 1) rfl (.t rfl) Tryz.isAgg53 rfl) rfl ?_)))
  replace hS26 := hS26.front 0 rfl rfl
  refine RL.callP Tryz.call26 (.cons (.t rfl) .nil) (blankP_c (Rs := (.box b2 [(.pointer (some ⟨pb, 0, none⟩))] 53 :: .box b3 [(i64 d)] 3 :: .box bm [(.map (some mb))] 106 :: .raw mb (smobj l c0) :: Rs)) s q21 pb hS26 (by omega) (by omega) hb) rfl ?_
  rintro v31 w32 ⟨⟨ha30a, ha30b⟩, hS34⟩
  refine RL.nil (CW.at [Y 0 (.pointer (some ⟨b2, 0, none⟩)), Y 1 (.pointer (some ⟨b3, 0, none⟩)), Y 2 (.pointer (some ⟨bm, 0, none⟩)), Y 3 (str x1)] rfl (CW.weaken [0, 1, 2, 3] (L' := [Y 0 (.pointer (some ⟨b2, 0, none⟩)), Y 1 (.pointer (some ⟨b3, 0, none⟩)), Y 2 (.pointer (some ⟨bm, 0, none⟩)), Y 3 (str x1)]) ?_ rfl))
  replace hS34 := (hS34.front 4 rfl rfl).front 4 rfl rfl
  replace hS34 := (hS34.front 4 rfl rfl).front 4 rfl rfl
  refine CW.regionG (HsQ := [.box b2 [(.pointer (some ⟨pb, 0, none⟩))] 53, .box b3 [(i64 d)] 3, .box bm [(.map (some mb))] 106, .raw mb (smobj l c0)]) 6 [.is true (.map (some mb)), .is true (str x1), .is true (.pointer (some ⟨pb, 0, none⟩)), .is true (i64 d), .is true (i64 (d + 1)), .any, .any] [(24, ⟨fun vz M X => ∃ x38 j39 a36 c37, valT f s (blankTo s q21) (d + 1) = .ok x38 j39 ∧ (blankTo s q21) + 1 ≤ j39 ∧ j39 ≤ len s ∧ len x38 ≤ j39 - (blankTo s q21) ∧ Sl M 6 x38.length (.slice a36 x38.length c37) (x38.flatMap Nd.cells) ∧ vz = (.slice a36 x38.length c37) ∧ X = (.box pb [(str s), (i64 j39)] 55 :: Rs), fun hm h => by obtain ⟨x38, j39, a36, c37, hr43, hF46a, hF46b, hF46c, hsl_v40, hvz, e⟩ := h; exact ⟨x38, j39, a36, c37, hr43, hF46a, hF46b, hF46c, hsl_v40.mono hm, hvz, e⟩⟩)] (.box pb [(str s), (i64 (blankTo s q21))] 55 :: Rs) [none, none, none, none, none, some 0] hS34 tryz_mixed [0, 1, 2, 3] rfl (by decide +kernel) (by decide +kernel) rfl rfl (by decide +kernel) (by decide +kernel) [24] rfl (by decide +kernel) (.cons ?_ (.cons ?_ (.cons ?_ (.cons ?_ (.cons ?_ (.cons ?_ (.cons ?_ (.nil))))))))
  ·intro LL w36 M37 X hle39 hS38 hK hD
   replace hmap := hmap.mono hle39
   refine RL.u (.loadB1 (v := (.map (some mb))) hS38 extEq (i := 2) rfl (.t (hK _ _ rfl)) Tryz.isAgg106 rfl) rfl ?_
   exact RL.nil (RA.next fun a hs => ⟨_, _, Mem.le.refl _, hS38, hs, _, _, rfl, rfl, rfl⟩)
  ·intro LL w40 M41 X hle43 hS42 hK hD
   replace hmap := hmap.mono hle43
   refine RL.u (.move (.t (hK _ _ rfl))) rfl ?_
   exact RL.nil (RA.next fun a hs => ⟨_, _, Mem.le.refl _, hS42, hs, _, _, rfl, rfl, rfl⟩)
  ·intro LL w44 M45 X hle47 hS46 hK hD
   replace hmap := hmap.mono hle47
   refine RL.u (.loadB1 (v := (.pointer (some ⟨pb, 0, none⟩))) hS46 extEq (i := 0) rfl (.t (hK _ _ rfl)) Tryz.isAgg53 rfl) rfl ?_
   exact RL.nil (RA.next fun a hs => ⟨_, _, Mem.le.refl _, hS46, hs, _, _, rfl, rfl, rfl⟩)
  ·intro LL w48 M49 X hle51 hS50 hK hD
   replace hmap := hmap.mono hle51
   refine RL.u (.loadB1 (v := (i64 d)) hS50 extEq (i := 1) rfl (.t (hK _ _ rfl)) Tryz.isAgg3 rfl) rfl ?_
   exact RL.nil (RA.next fun a hs => ⟨_, _, Mem.le.refl _, hS50, hs, _, _, rfl, rfl, rfl⟩)
  ·intro LL w52 M53 X hle55 hS54 hK hD
   replace hmap := hmap.mono hle55
   obtain ⟨g22, v22, hl22, rfl, rfl⟩ := hD 3 (by decide +kernel)
   refine RL.u (.add (.t hl22) .c (fun _ => by omega)) rfl ?_
   exact RL.nil (RA.next fun a hs => ⟨_, _, Mem.le.refl _, hS54, hs, _, _, rfl, rfl, rfl⟩)
  ·intro LL w56 M57 X hle59 hS58 hK hD hX
   replace hmap := hmap.mono hle59
   obtain rfl : (.box pb [(str s), (i64 (blankTo s q21))] 55 :: Rs) = X := Eq.symm hX
   obtain ⟨g21, v21, hl21, rfl, rfl⟩ := hD 2 (by decide +kernel)
   obtain ⟨g23, v23, hl23, rfl, rfl⟩ := hD 4 (by decide +kernel)
   replace hS58 := hS58.front 4 rfl rfl
   refine RL.callR Tryz.call27 (.cons (.t hl21) (.cons (.t hl23) .nil)) (hval (Rs := (.box b2 [(.pointer (some ⟨pb, 0, none⟩))] 53 :: .box b3 [(i64 d)] 3 :: .box bm [(.map (some mb))] 106 :: .raw mb (smobj l c0) :: Rs)) (blankTo s q21) (d + 1) hS58 (by omega) (by omega) (by omega) (by omega) (by omega)) rfl (fun ec p M71 w72 hr75 hS73 hle74 => ?_) (fun x62 j63 v64 M66 w65 hr67 hF70 hle69 => ?_)
   ·replace hS73 := hS73.drop Rs (List.sublist_append_right [_, _, _, _] _)
    exact hE.p (PPost.er (by rw [pairT_val hr6 (hc22.symm.trans hb1)]; show mapR _ _ = _; rw [← hc22y2, hr75]; rfl) hS73 ((hle8.trans hle59).trans hle74))
   obtain ⟨a60, c61, rfl, hF70a, hF70b, hF70c, hsl_v64, hS68⟩ := hF70
   replace hmap := hmap.mono hle69
   replace hS68 := (hS68.front 4 rfl rfl).front 4 rfl rfl
   replace hS68 := (hS68.front 4 rfl rfl).front 4 rfl rfl
   exact RL.nil (RA.next fun a hs => ⟨_, _, (.box pb [(str s), (i64 j63)] 55 :: Rs), hle69, hS68, hs, ⟨_, _, rfl, trivial⟩, ⟨_, rfl, x62, j63, a60, c61, hr67, hF70a, hF70b, hF70c, hsl_v64, rfl, rfl⟩⟩)
  ·intro LL w76 M77 X hle79 hS78 hK hD hX
   replace hmap := hmap.mono hle79
   obtain ⟨vx80, hl24, x38, j39, a36, c37, hr43, hF46a, hF46b, hF46c, hsl_v40, rfl, rfl⟩ := hX
   obtain ⟨g19, v19, hl19, rfl, rfl⟩ := hD 0 (by decide)
   obtain ⟨g20, v20, hl20, rfl, rfl⟩ := hD 1 (by decide)
   refine RL.smapUpdate false hS78 (i := 3) rfl (.t hl19) (.t hl20) (.t hl24) Tryz.underlying106 Tryz.underlying9 rfl rfl rfl (fun w81 hS82 => ?_)
   refine RL.nil (slots_sub (E := [Y 0 (.pointer (some ⟨b2, 0, none⟩)), Y 1 (.pointer (some ⟨b3, 0, none⟩)), Y 2 (.pointer (some ⟨bm, 0, none⟩)), Y 3 (str x1)]) (.cons (hK _ _ rfl) (.cons (hK _ _ rfl) (.cons (hK _ _ rfl) (.cons (hK _ _ rfl) .nil)))) ?_)
   replace hS82 := (hS82.front 3 rfl rfl).front 3 rfl rfl
   replace hS82 := (hS82.front 3 rfl rfl).front 3 rfl rfl
   replace hS82 := hS82.front 4 rfl rfl
   refine  (hE.e0 rfl ?_)
   have hpn := putV_n x1 x38 mp
   exact PPost.ok (show (pairT s i (fun k => valT f s k (d + 1)) mp) = _ from by rw [pairT_val hr6 (hc22.symm.trans hb1)]; show mapR _ _ = _; rw [← hc22y2, hr43]; rfl) ⟨by omega, by omega, by omega, _, _, hmap.put (h := ⟨a36, _, c37⟩) hsl_v40, hbo.put (h := ⟨a36, _, c37⟩) hmap hsl_v40, hS82⟩ (hle8.trans hle79)

end Go.Proofs.YtjfaikgooldcbaaGreatDoor
namespace Go.Eng
open Go.RowKit
theorem St.newSpare {w0 w : World} {M0 M : Mem} {Hs : List HO} (h : St w0 M0 w M Hs) (e : TypeId) (sz cap : Nat) (cur : Array Value) (hc : cur.size = cap * sz) (hm : cap ≤ maxLen) :
    St w0 M0 (w.alloc (.cells cur e)) M (.own e sz (.slice (some ⟨w.heap.size, 0, none⟩) 0 cap) 0 [] :: Hs) := by
  have h1 := h.ext (Ext.alloc w (.cells cur e))
  refine ⟨h1.low, h1.sat, h1.old, fun x hx => ?_, List.pairwise_cons.2 ⟨fun y hy b hb => ?_, h.apart⟩⟩
  · rcases List.mem_cons.1 hx with rfl | hx
    · refine ⟨⟨by simp, .inr ⟨w.heap.size, cap, cur, rfl, h.size, heap_alloc_new _ _, Nat.zero_le _, hm, hc, by simp⟩⟩, fun b hb => ?_⟩
      simp only [Value.ownBlock, Option.some.injEq] at hb; subst hb
      exact ⟨fun o ho => by simp at ho, fun o _ => h.none_of_new (Nat.le_refl _) o⟩
    · exact h1.ok x hx
  · simp only [HO.blk, Value.ownBlock, Option.some.injEq] at hb; subst hb
    intro hy'
    have := (HO.ok.lt (h.ok y hy) hy').2
    omega
end Go.Eng
namespace Go.Proofs.YtjfaikgooldcbaaGreatDoor
open Go.Eng Go.RowKit

set_option maxHeartbeats 1000000 in
set_option maxRecDepth 100000 in
theorem grow_none (w : World) : Calls Tryz.prog 131 #[.slice none 0 0, .int .i64 0] w fun e w' => e = .returned (.slice none 0 0) ∧ w' = w := by
  have mixed : Tryz.prog.follows .mixedOrders = true := by kernel_rfl
  go_enter Tryz.func131, Tryz.ntmps131
  go_wp2
  all_goals (go_ret; exact ⟨rfl, rfl⟩)
set_option maxHeartbeats 4000000 in
set_option maxRecDepth 100000 in
theorem grow_some (n : Nat) (w : World) (h0 : 0 < n) (hbig : n * 64 ≤ 140737488355328) : Calls Tryz.prog 131 #[.slice none 0 0, .int .i64 n] w fun e w' =>
    ∃ cap cur, e = .returned (.slice (some ⟨w.heap.size, 0, none⟩) 0 cap) ∧ cap ≤ maxLen ∧ cur.size = cap * 6 ∧ w' = w.drew.alloc (.cells cur 38) := by
  obtain ⟨i0, hi0, hz0, hs6, hb64⟩ : ∃ i, Tryz.prog.info? 38 = some i ∧ i.zero.isSome = true ∧ i.size = 6 ∧ i.bytes = 64 := by
    obtain ⟨i, hi, he⟩ := Option.map_eq_some_iff.1 (show (Tryz.prog.info? 38).map (fun i => (i.zero.isSome, i.size, i.bytes)) = some (true, 6, 64) by kernel_rfl)
    exact ⟨i, hi, by simpa using congrArg (·.1) he, by simpa using congrArg (·.2.1) he, by simpa using congrArg (·.2.2) he⟩
  obtain ⟨z, hz⟩ := Option.isSome_iff_exists.1 hz0
  have hzc : z.cells.size = 6 := by
    have := show (Tryz.prog.info? 38).bind (fun i => i.zero.map (fun z => z.cells.size)) = some 6 by kernel_rfl
    rw [hi0] at this; simp only [Option.bind_some, hz, Option.map_some, Option.some.injEq] at this; exact this
  have mixed : Tryz.prog.follows .mixedOrders = true := by kernel_rfl
  have us := fun w => run_underlying (P := Tryz.prog) (w := w) Tryz.underlying24
  have ui := fun w => run_underlying (P := Tryz.prog) (w := w) Tryz.underlying3
  have h1 : ¬ ((n : Int) < 0) := by omega
  have h3 : wrap64 ((n : Int) - 0) = (n : Int) := by unfold wrap64; omega
  have h4 : (n : Int) > 0 := by omega
  have hold : (Builtin.firstCells i0.size 0 (.slice none 0 0)).run Tryz.prog w.drew = .ok #[] w.drew := run_firstCells_none w.drew i0.size 0 0 0
  have hrz : ∀ ty, (Builtin.append_ #[24, 3] ty #[.slice none 0 0, .int .i64 (n : Int)]).run Tryz.prog w =
      .ok (.slice (some ⟨w.heap.size, 0, none⟩) n (grownCap w n 0 38)) (w.drew.alloc (.cells (#[] ++ Builtin.zeroCells z.cells n ++ Builtin.zeroCells z.cells (grownCap w n 0 38 - n)) 38)) := fun ty => by
    have h := Lib.run_append_grow_zeros w 24 3 ty 38 i0 z .i64 .i64 Tryz.underlying24 Tryz.underlying3 hi0 hz none 0 0 [] hold n (by omega) (by omega) (by omega) (by omega)
      (by rw [hb64]; omega) (by rw [Nat.zero_add]; exact growslice_fits h0 (by rw [hb64]; omega))
    rw [Nat.zero_add] at h
    exact h
  have hGn : n ≤ grownCap w n 0 38 := grownCap_ge w _ _ _
  have hGm : grownCap w n 0 38 ≤ maxLen := grownCap_le_maxLen w n 0 38 (by unfold maxLen; omega)
  obtain ⟨G, hG⟩ : ∃ G, G = grownCap w n 0 38 := ⟨_, rfl⟩
  rw [← hG] at hrz hGn hGm
  have hG63 : G ≤ 9223372036854775807 := by unfold maxLen at hGm; omega
  have hzs : ∀ k, (Builtin.zeroCells z.cells k).size = k * 6 := fun k => by simp [Builtin.zeroCells, hzc]
  have hsz : (#[] ++ Builtin.zeroCells z.cells n ++ Builtin.zeroCells z.cells (G - n)).size = G * 6 := by rw [Array.size_append, Array.size_append, hzs, hzs]; simp; omega
  generalize (#[] ++ Builtin.zeroCells z.cells n ++ Builtin.zeroCells z.cells (G - n)) = cur at hrz hsz
  clear hold hG hi0
  go_enter Tryz.func131, Tryz.ntmps131
  go_wp2_with (at_builtin; refine Lib.wpList_append_run _ rfl _ _ _ _ rfl _ _ rfl rfl _ _ (hrz _) ?_)
  all_goals (go_ret; exact ⟨G, rfl, hGm, _, hsz, rfl⟩)
theorem grow_c {w wv : World} {M0 M : Mem} {Hs : List HO} (n : Int) (hS : St w M0 wv M Hs) (h0 : 0 ≤ n) (hb : n ≤ 1099511627776) :
    Calls Tryz.prog 131 [.slice none 0 0, i64 n].toArray wv fun e w' => ∃ u, e = .returned u ∧ St w M0 w' M (.own 38 6 u 0 [] :: Hs) := by
  by_cases hn : n = 0
  · subst hn
    exact (grow_none wv).mono fun e w' ⟨he, hw⟩ => ⟨_, he, hw ▸ hS.ownNil _ _⟩
  · have hg := grow_some n.toNat wv (by omega) (by omega)
    rw [show ((n.toNat : Nat) : Int) = n from by omega] at hg
    refine hg.mono fun e w' ⟨cap, cur, he, hc, hs, hw⟩ => ⟨_, he, ?_⟩
    subst hw
    exact (hS.ext (Ext.drew wv)).newSpare _ 6 cap cur hs hc
end Go.Proofs.YtjfaikgooldcbaaGreatDoor
set_option maxRecDepth 100000
namespace Go.Proofs.YtjfaikgooldcbaaGreatDoor
open Go.Eng

/- slices.Concat[loupe/api.Val,loupe/api.Node] -/
theorem concat_c {w wv : World} {M0 M : Mem} {Rs : List HO} (rs : List SlH) (xs : List Vl) (va : Value) (hS : St w M0 wv M Rs) (ha : Sl M 1 rs.length va (rs.flatMap valI)) (hrow : RowsV M 6 Nd.cells rs xs) (hbd : len xs.flatten ≤ 1099511627776) :
  Calls Tryz.prog 102 [va].toArray wv fun e w' => ∃ u, e = .returned u ∧ ∃ M', Sl M' 6 xs.flatten.length u (xs.flatten.flatMap Nd.cells) ∧ St w M0 w' M' Rs ∧ M.le M' := by
 refine CW.enter1 Tryz.func102 rfl Tryz.ntmps102 (Nat.le_of_ble_eq_true rfl) fun Q hE => ?_
 have hrl : len rs = len xs := by unfold len; rw [hrow.len]
 have hle9 : len rs ≤ 9223372036854775807 := ha.le
 have hn0 := len_nonneg rs
 refine CW.weaken [0] (L' := [Y 0 va]) ?_ rfl
 refine CW.sr ?_
 have hS1 := hS.ownNil 38 6
 refine RL.u (.assign .c) rfl (RL.nil (CW.id ?_))
 refine CW.sr (RL.u (.assign .c) rfl (RL.nil (CW.id (CW.seq ?_))))
 refine CW.sr (RL.m rfl rfl (RL.u (.lenT ha (.t rfl) ⟨_, Tryz.underlying47⟩) rfl (RL.u (.move .c) rfl (RL.nil (CW.id (CW.block ?_))))))
 refine CW.loop (σ := Int × Int) (fun (k, q) => [Y 0 va, Y 3 (i64 q), Y 9 va, Y 10 (i64 (len rs)), Y 11 (i64 k)]) (fun (k, q) wl => St w M0 wl M (.own 38 6 (.slice none 0 0) (([] : List Nd)).length ((([] : List Nd)).flatMap Nd.cells) :: Rs) ∧ Sl M 1 rs.length va (rs.flatMap valI) ∧ RowsV M 6 Nd.cells rs xs ∧ 0 ≤ k ∧ k ≤ len rs ∧ q = len (flatTo xs k)) (fun (k, q) => (len rs - k).toNat) ((0, 0)) [0, 3, 9, 10, 11] rfl ?_ ?_
 ·refine ⟨hS1, ha, hrow, ?_⟩; exact ⟨by omega, by omega, rfl⟩
 ·rintro ⟨k, q⟩ wl ⟨hS2, ha, hrow, hk0, hk1, hq⟩
  have hrk := fun h : k < len rs => hrow.at hk0 h
  refine CW.sr (RL.u (.lss (.t rfl) (.t rfl)) rfl (RL.nil (CW.id (CW.seq ?_))))
  refine CW.cond rfl ?_ ?_ <;> intro hb1 <;> try simp only [zb] at hb1
  ·replace hrk := hrk hb1
   have hft := flatTo_step hk0 (by omega : k < len xs)
   have hfl := flatTo_le xs (k + 1)
   rw [hft, len_app] at hfl
   have hz := len_nonneg (at' xs k)
   have hz2 := len_nonneg (flatTo xs k)
   refine CW.skip (CW.id (CW.seq (CW.block (CW.sr ?_))))
   refine RL.u (.idxT ha (.t rfl) (.t rfl) Tryz.underlying47 Tryz.sizeOf24 (fun _ => by omega)) rfl (RL.u (.loadE1 (f := valI) (i := k) (j := 0) (u := ((at' rs k).v)) hS2 extEq ha valI_len (.t rfl) Tryz.isAgg24 (fun _ => by omega) rfl rfl) rfl (RL.a rfl rfl (RL.nil (CW.id ?_))))
   refine CW.sr (RL.m rfl rfl (RL.m rfl rfl (RL.u (.lenT hrk (.t rfl) ⟨_, Tryz.underlying24⟩) rfl (RL.u (.add (.t rfl) (.t rfl) (fun _ => by omega)) rfl (RL.a rfl rfl (RL.nil (CW.id (CW.sr ?_))))))))
   refine RL.m rfl rfl (RL.u (.lss (.t rfl) .c) rfl (RL.nil (CW.id ?_)))
   refine CW.cond rfl ?_ ?_ <;> intro hb2 <;> try simp only [zb] at hb2
   ·exfalso; omega
   ·refine CW.skip (CW.id ?_)
    refine CW.region (RL.u (.add (.t rfl) .c (fun _ => by omega)) rfl (RL.m rfl rfl ?_))
    refine RL.nil fun a hs => Exists.intro ((k + 1, q + (len (at' xs k)))) ⟨hs.keep [0, 3, 9, 10, 11], ?_, ?_⟩
    ·refine ⟨hS2, ha, hrow, ?_⟩
     exact ⟨by omega, by omega, by rw [hft, len_app]; omega⟩
    ·show Int.toNat _ < Int.toNat _; omega
  ·have hfe : flatTo xs k = xs.flatten := flatTo_end (by omega)
   have hz3 := len_nonneg xs.flatten
   have hfe1 : len (flatTo xs k) = len xs.flatten := by rw [hfe]
   refine CW.exit (CW.at [Y 0 va, Y 3 (i64 q)] rfl ?_)
   refine CW.sr (RL.m rfl rfl ?_)
   refine RL.callP Tryz.call131 (.cons .c (.cons (.t rfl) .nil)) (grow_c (Hs := (.own 38 6 (.slice none 0 0) (([] : List Nd)).length ((([] : List Nd)).flatMap Nd.cells) :: Rs)) q hS2 (by omega) (by omega)) rfl ?_
   rintro v3 w4 hS6
   refine RL.a rfl rfl ?_
   refine RL.nil (CW.at [Y 0 va, Y 6 v3] rfl (CW.seq (CW.sr (RL.m rfl rfl (RL.u (.lenT ha (.t rfl) ⟨_, Tryz.underlying47⟩) rfl (RL.u (.move .c) rfl (RL.nil (CW.id ?_))))))))
   refine CW.block ?_
   refine CW.loop (σ := Int × Value × List Nd × Mem) (fun (k, vl, ll, Ml) => [Y 6 vl, Y 25 va, Y 26 (i64 (len rs)), Y 27 (i64 k)]) (fun (k, vl, ll, Ml) wl => St w M0 wl Ml (.own 38 6 vl ll.length (ll.flatMap Nd.cells) :: .own 38 6 (.slice none 0 0) (([] : List Nd)).length ((([] : List Nd)).flatMap Nd.cells) :: Rs) ∧ Sl Ml 1 rs.length va (rs.flatMap valI) ∧ RowsV Ml 6 Nd.cells rs xs ∧ 0 ≤ k ∧ k ≤ len rs ∧ ll = flatTo xs k ∧ M.le Ml) (fun (k, vl, ll, Ml) => (len rs - k).toNat) ((0, v3, ([] : List Nd), M)) [6, 25, 26, 27] rfl ?_ ?_
   ·refine ⟨hS6, ha, hrow, ?_⟩; exact ⟨by omega, by omega, rfl, (Mem.le.refl _)⟩
   ·rintro ⟨k, vl, ll, Ml⟩ wl ⟨hS8, ha, hrow, hk0, hk1, hll, hle0⟩
    have hrk := fun h : k < len rs => hrow.at hk0 h
    refine CW.sr (RL.u (.lss (.t rfl) (.t rfl)) rfl (RL.nil (CW.id (CW.seq ?_))))
    refine CW.cond rfl ?_ ?_ <;> intro hb3 <;> try simp only [zb] at hb3
    ·replace hrk := hrk hb3
     have hft := flatTo_step hk0 (by omega : k < len xs)
     have hfl := flatTo_le xs (k + 1)
     rw [hft, len_app] at hfl
     have hz := len_nonneg (at' xs k)
     have hz2 := len_nonneg (flatTo xs k)
     refine CW.skip (CW.id (CW.seq (CW.block (CW.sr ?_))))
     refine RL.u (.idxT ha (.t rfl) (.t rfl) Tryz.underlying47 Tryz.sizeOf24 (fun _ => by omega)) rfl (RL.u (.loadE1 (f := valI) (i := k) (j := 0) (u := ((at' rs k).v)) hS8 extEq ha valI_len (.t rfl) Tryz.isAgg24 (fun _ => by omega) rfl rfl) rfl (RL.a rfl rfl (RL.nil (CW.id ?_))))
     refine CW.region (RL.m rfl rfl (RL.m rfl rfl ?_))
     refine RL.appendL (f := Nd.cells) (l := ll) (m := at' xs k) hS8 (k := 0) rfl (.t rfl) (.t rfl) hrk Tryz.underlying24 Tryz.type38 rfl rfl rfl Nd.cells_one (by' := 64) rfl rfl (by first | omega | (subst hll; omega) | (subst hq; omega)) rfl (Hs' := fun v' => (.own 38 6 v' (ll ++ at' xs k).length ((ll ++ at' xs k).flatMap Nd.cells) :: .own 38 6 (.slice none 0 0) (([] : List Nd)).length ((([] : List Nd)).flatMap Nd.cells) :: Rs)) (fun _ => rfl) (fun v9 w10 M11 hS12 hle13 => ?_)
     replace ha := ha.mono hle13
     replace hrow := hrow.mono hle13
     refine RL.a rfl rfl (RL.nil (CW.id ?_))
     refine CW.region (RL.u (.add (.t rfl) .c (fun _ => by omega)) rfl (RL.m rfl rfl ?_))
     refine RL.nil fun a hs => Exists.intro ((k + 1, v9, ll ++ at' xs k, M11)) ⟨hs.keep [6, 25, 26, 27], ?_, ?_⟩
     ·refine ⟨hS12, ha, hrow, ?_⟩
      exact ⟨by omega, by omega, by rw [hft, hll], (hle0.trans hle13)⟩
     ·show Int.toNat _ < Int.toNat _; omega
    ·refine CW.exit (CW.at [Y 6 vl] rfl ?_)
     refine CW.sr (RL.m rfl rfl (RL.a rfl rfl (RL.nil (CW.id (CW.ret (hE.r1 rfl rfl ?_))))))
     have hslr := (hS8.sl (i := 0) rfl)
     replace hS8 := (hS8.erase 1 rfl).erase 0 rfl
     have hfe2 : ll = xs.flatten := by rw [hll]; exact flatTo_end (by omega)
     subst hfe2
     exact ⟨_, rfl, Ml, hslr, hS8, hle0⟩

/- loupe/val.List -/
theorem vlist_c {w wv : World} {M0 M : Mem} {Rs : List HO} (rs : List SlH) (xs : List Vl) (va : Value) (hS : St w M0 wv M Rs) (ha : Sl M 1 rs.length va (rs.flatMap valI)) (hrow : RowsV M 6 Nd.cells rs xs) (hbd : len xs.flatten ≤ 1099511627776) :
  Calls Tryz.prog 74 [va].toArray wv fun e w' => ∃ u, e = .returned u ∧ ∃ a c M', u = .slice a (listV xs).length c ∧ Sl M' 6 (listV xs).length u ((listV xs).flatMap Nd.cells) ∧ St w M0 w' M' Rs ∧ M.le M' := by
 refine CW.enter1 Tryz.func74 rfl Tryz.ntmps74 (Nat.le_of_ble_eq_true rfl) fun Q hE => ?_
 have hrl : len rs = len xs := by unfold len; rw [hrow.len]
 have hn := len_nonneg xs.flatten
 refine CW.weaken [0] (L' := [Y 0 va]) ?_ rfl
 refine CW.sr ?_
 have hS1 := hS.ownNil 38 6
 refine RL.u (.assign .c) rfl (RL.nil (CW.id ?_))
 refine CW.sr (RL.m rfl rfl (RL.u (.lenT ha (.t rfl) ⟨_, Tryz.underlying47⟩) rfl (RL.u (.build (vs := [(0, (i64 5)), (1, (i64 (len rs)))]) (v := (.agg #[(i64 5), (i64 (len rs)), (str []), (str []), (.bool false), (i64 0)])) (.cons .c (.cons (.t rfl) .nil)) (fun w => by kernel_rfl)) rfl ?_)))
 refine RL.buildSlice (n := 1) (sz := 6) (e := 38) (vs := [(0, (.agg #[(i64 5), (i64 (len rs)), (str []), (str []), (.bool false), (i64 0)]))]) (cs := [(i64 5), (i64 (len rs)), (str []), (str []), (.bool false), (i64 0)]) hS1 (.cons (.t rfl) .nil) rfl rfl (fun w => by kernel_rfl) rfl (fun v2 w3 M4 hS5 hle6 => ?_)
 replace ha := ha.mono hle6
 replace hrow := hrow.mono hle6
 refine RL.m rfl rfl ?_
 refine RL.callP Tryz.call102 (.cons (.t rfl) .nil) (concat_c (Rs := (.own 38 6 v2 (([⟨5, len rs, [], [], false, 0⟩] : List Nd)).length ((([⟨5, len rs, [], [], false, 0⟩] : List Nd)).flatMap Nd.cells) :: .own 38 6 (.slice none 0 0) (([] : List Nd)).length ((([] : List Nd)).flatMap Nd.cells) :: Rs)) rs xs va hS5 ha hrow (by assumption)) rfl ?_
 rintro v7 w8 ⟨M9, hsl_v7, hS10, hle11⟩
 replace ha := ha.mono hle11
 replace hrow := hrow.mono hle11
 refine RL.appendL (f := Nd.cells) (l := ([⟨5, len rs, [], [], false, 0⟩] : List Nd)) (m := xs.flatten) hS10 (k := 0) rfl (.t rfl) (.t rfl) hsl_v7 Tryz.underlying24 Tryz.type38 rfl rfl rfl Nd.cells_one (by' := 64) rfl rfl (by first | omega | (simp only [len_app, len_cons, len_nil] at *; omega)) rfl (Hs' := fun v' => (.own 38 6 v' (([⟨5, len rs, [], [], false, 0⟩] : List Nd) ++ xs.flatten).length ((([⟨5, len rs, [], [], false, 0⟩] : List Nd) ++ xs.flatten).flatMap Nd.cells) :: .own 38 6 (.slice none 0 0) (([] : List Nd)).length ((([] : List Nd)).flatMap Nd.cells) :: Rs)) (fun _ => rfl) (fun v12 w13 M14 hS15 hle16 => ?_)
 replace ha := ha.mono hle16
 replace hrow := hrow.mono hle16
 refine RL.a rfl rfl ?_
 refine RL.nil (CW.at [Y 2 v12] rfl (CW.ret (hE.r1 rfl rfl ?_)))
 have hslr := (hS15.sl (i := 0) rfl)
 replace hS15 := (hS15.erase 1 rfl).erase 0 rfl
 rw [hrl] at hslr
 obtain ⟨az, cz, hz⟩ := Sl.shape hslr
 exact ⟨_, rfl, az, cz, M14, hz, hslr, hS15, ((hle6.trans hle11).trans hle16)⟩

end Go.Proofs.YtjfaikgooldcbaaGreatDoor
set_option maxRecDepth 100000
namespace Go.Proofs.YtjfaikgooldcbaaGreatDoor
open Go.Eng

def ListI (pb bl b2 b3 : Nat) (d i0 : Int) (xs : List Vl) (j : Int) (M : Mem) (Hs : List HO) : Prop := (len xs ≤ j ∧ len xs.flatten + 1 ≤ j - i0) ∧ ∃ v rs, RowsV M 6 Nd.cells rs xs ∧ Hs = [.box bl [v] 47, .own 24 1 v rs.length (rs.flatMap valI), .box b2 [.pointer (some ⟨pb, 0, none⟩)] 53, .box b3 [i64 d] 3]
theorem list_part {w : World} {M0 : Mem} {Rs : List HO} (s : Str) (pb bl b2 b3 : Nat) (d i0 : Int) (hb : len s ≤ 1099511627776) (hd : 0 ≤ d ∧ d ≤ 900) (f : Nat) (hval : ValOK w M0 s pb f) :
    PartOK w M0 Rs s pb 73 [.pointer (some ⟨bl, 0, none⟩), .pointer (some ⟨b2, 0, none⟩), .pointer (some ⟨b3, 0, none⟩)] (ListI pb bl b2 b3 d i0) (fun f x i => mapR (fun y => x ++ [y]) (valT f s i (d + 1))) f := by
  intro xs i wv M Hs hI h0 h1 hf hS
  obtain ⟨hlx, v, rs, hrow, rfl⟩ := hI
  refine (listpart_c (Rs := Rs) s i d pb bl b2 b3 v rs xs f i0 hS hrow hlx h0 h1 hb hd hf hval).mono fun e w' h => ?_
  show PPost w M0 M Rs 51 _ (mapR (fun y => xs ++ [y]) (valT f s i (d + 1))) e w'
  revert h
  generalize mapR (fun y => xs ++ [y]) (valT f s i (d + 1)) = r
  intro h
  cases r with
  | ok x j => obtain ⟨v', M', he, ⟨h2, h3, h4, v2, rs2, hr2, hS2⟩, hle⟩ := h; exact ⟨v', M', he, ⟨by omega, h3, _, ⟨h4, v2, rs2, hr2, rfl⟩, hS2⟩, hle⟩
  | er ec p => exact h
theorem list_parts {w wv : World} {M0 M : Mem} {Rs : List HO} (s : Str) (i d : Int) (pb bl b2 b3 : Nat) (Fu : Nat) (hS : St w M0 wv M (.box pb [str s, i64 (i)] 55 :: .box bl [.slice none 0 0] 47 :: .own 24 1 (.slice none 0 0) ([] : List SlH).length (([] : List SlH).flatMap valI) :: .box b2 [.pointer (some ⟨pb, 0, none⟩)] 53 :: .box b3 [i64 d] 3 :: Rs))
    (h0 : 0 ≤ i) (h1 : i < len s) (hb : len s ≤ 1099511627776) (hd : 0 ≤ d ∧ d ≤ 900) (hf : 2 * (len s - i) ≤ Fu) (hval : ∀ f, f < Fu → ValOK w M0 s pb f) :
    Calls Tryz.prog 72 [.pointer (some ⟨pb, 0, none⟩), str [93], (.func (.func 73) #[] #[(.pointer (some ⟨bl, 0, none⟩)), (.pointer (some ⟨b2, 0, none⟩)), (.pointer (some ⟨b3, 0, none⟩))])].toArray wv (PPost w M0 M Rs 51 (fun x j v M' w' => i + 2 ≤ j ∧ j ≤ len s ∧ (len x ≤ j ∧ len x.flatten + 1 ≤ j - i) ∧ ∃ v2 rs2, RowsV M' 6 Nd.cells rs2 x ∧ St w M0 w' M' (.box pb [str s, i64 (j)] 55 :: .box bl [v2] 47 :: .own 24 1 v2 rs2.length (rs2.flatMap valI) :: .box b2 [.pointer (some ⟨pb, 0, none⟩)] 53 :: .box b3 [i64 d] 3 :: Rs)) (partsT s i [93] [] (itemsT Fu s d))) := by
  refine (parts_c (Rs := Rs) s [93] i pb 73 [.pointer (some ⟨bl, 0, none⟩), .pointer (some ⟨b2, 0, none⟩), .pointer (some ⟨b3, 0, none⟩)] (ListI pb bl b2 b3 d i) (fun f x i => mapR (fun y => x ++ [y]) (valT f s i (d + 1))) (fun f => itemsT f s d) [] Fu _ hS ⟨⟨by simp only [len_nil]; omega, by simp only [List.flatten_nil, len_nil]; omega⟩, _, [], trivial, rfl⟩ ?_ Tryz.call73 (fun f x i => by rw [itemsT]) (fun f hf => list_part s pb bl b2 b3 d i hb hd f (hval f hf)) rfl hf h0 h1 hb).mono fun e w' h => ?_
  · rintro x M Hs j j2 hj ⟨⟨h1, h2⟩, h3⟩; exact ⟨⟨by omega, by omega⟩, h3⟩
  · revert h
    show PPost _ _ _ _ _ _ _ _ _ → PPost _ _ _ _ _ _ _ _ _
    generalize partsT s i [93] [] (itemsT Fu s d) = r
    intro h
    cases r with
    | ok x j => obtain ⟨v', M', he, ⟨h2, h3, _, ⟨h4, v2, rs2, hr2, rfl⟩, hS2⟩, hle⟩ := h; exact ⟨v', M', he, ⟨h2, h3, h4, v2, rs2, hr2, hS2⟩, hle⟩
    | er ec p => exact h
/- (*loupe/text.parser).list -/
theorem listp_c {w wv : World} {M0 M : Mem} {Rs : List HO} (s : Str) (i d : Int) (pb : Nat) (Fu : Nat) (hS : St w M0 wv M (.box pb [(str s), (i64 i)] 55 :: Rs)) (h0 : 0 ≤ i) (h1 : i < len s) (hb : len s ≤ 1099511627776) (hd : 0 ≤ d ∧ d ≤ 900) (hf : 2 * (len s - i) ≤ Fu) (hval : ∀ f, f < Fu → ValOK w M0 s pb f) :
  Calls Tryz.prog 45 [(.pointer (some ⟨pb, 0, none⟩)), (i64 d)].toArray wv fun e w' => PPost w M0 M Rs 51 (fun x j v M' w' => ∃ a c, v = .slice a x.length c ∧ i + 1 ≤ j ∧ j ≤ len s ∧ len x ≤ j - i ∧ Sl M' 6 x.length (.slice a x.length c) (x.flatMap Nd.cells) ∧ St w M0 w' M' (.box pb [str s, i64 j] 55 :: Rs)) (mapR listV (partsT s i [93] [] (itemsT Fu s d))) e w' := by
 refine CW.enter1 Tryz.func45 rfl Tryz.ntmps45 (Nat.le_of_ble_eq_true rfl) fun Q hE => ?_
 refine CW.weaken [0, 1] (L' := [Y 0 (.pointer (some ⟨pb, 0, none⟩)), Y 1 (i64 d)]) ?_ rfl
 refine CW.sr ?_
 refine RL.box (v := (.pointer (some ⟨pb, 0, none⟩))) hS (.t rfl) rfl (fun w1 b2 hS3 => ?_)
 refine RL.box (v := (i64 d)) hS3 (.t rfl) rfl (fun w4 b5 hS6 => ?_)
 have hS7 := hS6.ownNil 38 6
 refine RL.u (.assign .c) rfl (RL.nil (CW.id ?_))
 refine CW.sr ?_
 refine RL.alloc hS7 Tryz.zeroValue47 rfl (fun w8 b9 hS10 => ?_)
 have hS11 := hS10.ownNil 24 1
 refine RL.nil (CW.id (CW.sr (RL.u (.loadB1 (v := (.pointer (some ⟨pb, 0, none⟩))) hS11 extEq (i := 4) rfl (.t rfl) Tryz.isAgg53 rfl) rfl (RL.u (.makeFunc .nil (.cons (.t rfl) (.cons (.t rfl) (.cons (.t rfl) .nil)))) rfl ?_))))
 replace hS11 := (hS11.front 3 rfl rfl).front 4 rfl rfl
 replace hS11 := (hS11.front 2 rfl rfl).front 3 rfl rfl
 replace hS11 := hS11.front 5 rfl rfl
 refine RL.callR Tryz.call72 (.cons (.t rfl) (.cons .c (.cons (.t rfl) .nil))) (list_parts (Rs := (.own 38 6 (.slice none 0 0) (([] : List Nd)).length ((([] : List Nd)).flatMap Nd.cells) :: Rs)) s i d pb b9 b2 b5 Fu hS11 h0 h1 hb hd hf hval) rfl (fun ec p M23 w24 hr27 hS25 hle26 => ?_) (fun x14 j15 v16 M18 w17 hr19 hF22 hle21 => ?_)
 ·replace hS25 := hS25.drop Rs (List.sublist_append_right [_] _)
  exact hE.p (PPost.er (show mapR _ _ = _ from by rw [hr27]; rfl) hS25 hle26)
 obtain ⟨hF22a, hF22b, ⟨hF22c, hF22d⟩, v12, rs13, hrow, hS20⟩ := hF22
 refine RL.nil (CW.at [Y 5 (.pointer (some ⟨b9, 0, none⟩))] rfl (CW.sr (RL.u (.loadB1 (v := v12) hS20 extEq (i := 1) rfl (.t rfl) Tryz.isAgg47 rfl) rfl ?_)))
 refine RL.callP Tryz.call74 (.cons (.t rfl) .nil) (vlist_c (Rs := (.box pb [(str s), (i64 j15)] 55 :: .box b9 [v12] 47 :: .own 24 1 v12 rs13.length (rs13.flatMap valI) :: .box b2 [(.pointer (some ⟨pb, 0, none⟩))] 53 :: .box b5 [(i64 d)] 3 :: .own 38 6 (.slice none 0 0) (([] : List Nd)).length ((([] : List Nd)).flatMap Nd.cells) :: Rs)) rs13 x14 v12 hS20 (hS20.sl (i := 2) rfl) hrow (by omega)) rfl ?_
 rintro v30 w31 ⟨a28, c29, M32, rfl, hsl_v30, hS33, hle34⟩
 replace hrow := hrow.mono hle34
 refine RL.a rfl rfl ?_
 refine RL.nil (CW.at [Y 4 (.slice a28 (listV x14).length c29)] rfl (CW.ret (hE.r1 rfl rfl ?_)))
 have hslr := hsl_v30
 replace hS33 := (hS33.erase 5 rfl).erase 4 rfl
 replace hS33 := (hS33.erase 3 rfl).erase 2 rfl
 replace hS33 := hS33.erase 1 rfl
 have hlz : len (listV x14) = len x14.flatten + 1 := len_cons _ _
 exact PPost.ok (show mapR _ _ = _ from by rw [hr19]; rfl) ⟨_, _, rfl, by omega, by omega, by omega, hslr, hS33⟩ (hle21.trans hle34)

end Go.Proofs.YtjfaikgooldcbaaGreatDoor
namespace Go.Eng
open Go.RowKit

/-- The pairs that have been visited, and their births. -/
def Vis (seen : Array Nat) (bs : List Nat) (ps m : List (Str × Vl)) : Prop := seen.toList = bs ∧ bs.length = ps.length ∧ (∀ p ∈ ps, p ∈ m) ∧ (ps.map (·.1)).Nodup
def KeysOK (m : List (Str × Vl)) : Prop := (m.map (·.1)).Nodup
theorem putV_keys (n : Str) (x : Vl) : ∀ m : List (Str × Vl), (n ∈ m.map (·.1) → (putV m n x).map (·.1) = m.map (·.1)) ∧ (n ∉ m.map (·.1) → (putV m n x).map (·.1) = m.map (·.1) ++ [n])
  | [] => ⟨fun h => (by cases h), fun _ => rfl⟩
  | p :: m => by
    have ih := putV_keys n x m
    by_cases h : n = p.1
    · refine ⟨fun _ => ?_, fun hn => absurd ?_ hn⟩
      · unfold putV; rw [if_pos (by simpa using h)]; simp [h]
      · simp [h]
    · have e : putV (p :: m) n x = p :: putV m n x := by rw [putV, if_neg (by simpa using h)]
      rw [e]
      refine ⟨fun hn => ?_, fun hn => ?_⟩
      · simp only [List.map_cons, List.mem_cons] at hn ⊢
        rcases hn with hn | hn
        · exact absurd hn h
        · rw [ih.1 hn]
      · simp only [List.map_cons, List.mem_cons, not_or] at hn ⊢
        rw [ih.2 hn.2]; rfl
theorem KeysOK.put {m : List (Str × Vl)} (h : KeysOK m) (n : Str) (x : Vl) : KeysOK (putV m n x) := by
  unfold KeysOK at *
  by_cases hn : n ∈ m.map (·.1)
  · rw [(putV_keys n x m).1 hn]; exact h
  · rw [(putV_keys n x m).2 hn, List.nodup_append]
    refine ⟨h, by simp, fun a ha b hb => ?_⟩
    simp only [List.mem_singleton] at hb
    subst hb; intro e; subst e; exact hn ha
/-- Pairs of distinct keys within a map, as many as it has: the map, in some order. -/
theorem perm_of_sub {ps : List (Str × Vl)} : ∀ {m : List (Str × Vl)}, (ps.map (·.1)).Nodup → (∀ p ∈ ps, p ∈ m) → ps.length = m.length → ps.Perm m := by
  induction ps with
  | nil =>
    intro m _ _ hl
    have hm : m = [] := List.eq_nil_of_length_eq_zero (by simpa using hl.symm)
    subst hm; exact List.Perm.refl _
  | cons p ps ih =>
    intro m hk hs hl
    rw [List.map_cons, List.nodup_cons] at hk
    have hp := hs p List.mem_cons_self
    have h1 : ps.Perm (m.erase p) := ih hk.2 (fun q hq => (List.mem_erase_of_ne (fun e => hk.1 (List.mem_map.2 ⟨q, hq, by rw [e]⟩))).2 (hs q (List.mem_cons_of_mem _ hq))) (by rw [List.length_erase_of_mem hp]; simp only [List.length_cons] at hl; omega)
    exact (h1.cons p).trans (List.perm_cons_erase hp).symm
theorem getV_of_mem {m : List (Str × Vl)} (h : KeysOK m) {p : Str × Vl} (hp : p ∈ m) : getV m p.1 = some p.2 := by
  induction m with
  | nil => cases hp
  | cons q m ih =>
    unfold KeysOK at h
    rw [List.map_cons, List.nodup_cons] at h
    unfold getV
    rcases List.mem_cons.1 hp with rfl | hp
    · simp
    · have hne : ¬ (p.1 == q.1) = true := by
        intro e
        exact h.1 (List.mem_map.2 ⟨p, hp, by simpa using e⟩)
      rw [if_neg hne]; exact ih h.2 hp
theorem pairT_keys {s : Str} {i : Int} {val : Int → PR Vl} {m x : List (Str × Vl)} {j : Int} (hk : KeysOK m) (h : pairT s i val m = .ok x j) : KeysOK x := by
  unfold pairT at h
  split at h
  · cases h
  · split at h
    · rename_i n q _ _
      unfold mapR at h
      split at h
      · cases h
      · cases h; exact hk.put n _
    · cases h
theorem str_total (a b : Str) : (decide (a ≤ b) || decide (b ≤ a)) = true := by
  rcases Classical.em (a ≤ b) with h | h
  · simp [h]
  · simp [List.le_of_lt (List.not_le.1 h)]
theorem str_trans (a b c : Str) (h1 : decide (a ≤ b) = true) (h2 : decide (b ≤ c) = true) : decide (a ≤ c) = true := by
  simp only [decide_eq_true_eq] at *; exact List.le_trans h1 h2
theorem sortN_perm {a b : List Str} (h : a.Perm b) : sortN a = sortN b := by
  unfold sortN
  refine List.Perm.eq_of_pairwise (le := fun x y => decide (x ≤ y) = true) (fun x y _ _ h1 h2 => ?_) (List.pairwise_mergeSort str_trans str_total _) (List.pairwise_mergeSort str_trans str_total _) (((List.mergeSort_perm _ _).trans h).trans (List.mergeSort_perm _ _).symm)
  simp only [decide_eq_true_eq] at h1 h2
  exact List.le_antisymm h1 h2
/-- An object does not hang on the order in which a map is ranged over. -/
theorem objV_perm {ps m : List (Str × Vl)} (h : ps.Perm m) (hk : KeysOK m) : objV ps = objV m := by
  have hkp : KeysOK ps := (List.Perm.map (fun p : Str × Vl => p.1) h).symm.nodup hk
  unfold objV
  rw [sortN_perm (h.map (·.1))]
  congr 1
  refine List.map_congr_left fun n hn => ?_
  have hn' : n ∈ m.map (·.1) := (List.mergeSort_perm _ _).mem_iff.1 hn
  obtain ⟨q, hq, rfl⟩ := List.mem_map.1 hn'
  rw [getV_of_mem hk hq, getV_of_mem hkp (h.mem_iff.2 hq)]
end Go.Eng
