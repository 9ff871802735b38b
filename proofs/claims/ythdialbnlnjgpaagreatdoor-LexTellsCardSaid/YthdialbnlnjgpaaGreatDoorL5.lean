import Derived.Test.YthdialbnlnjgpaaGreatDoorEngL
import Derived.Laws.BitsLemmas
import Derived.Test.YthdialbnlnjgpaaGreatDoorPure
import Derived.Test.YthdialbnlnjgpaaGreatDoorProg
import Derived.Test.YthdialbnlnjgpaaGreatDoorL4
set_option linter.unusedVariables false
set_option linter.unusedSimpArgs false
namespace Go.Proofs.YthdialbnlnjgpaaGreatDoor
open Go.Eng

/- loupe/lex.Lex -/
set_option maxRecDepth 100000 in
theorem lexP_c (M : Mem) (s : Str) (w : World) (hM : Sat w M) (hg : Gl w) (hb : len s ≤ 1099511627776) :
  Calls Tryz.prog 9 [(str s)].toArray w fun e w' => ∃ v M', e = .returned v ∧ (∃ u, v = .tuple #[u, i64 (lexP s).2.1, i64 (lexP s).2.2] ∧ Sl M' 9 (lexP s).1.length u ((lexP s).1.flatMap Tk.cells)) ∧ Grow w M w' M' := by
 refine CW.enter Tryz.func9 rfl Tryz.ntmps9 (Nat.le_of_ble_eq_true rfl) ?_
 have := len_nonneg s
 have hbt := blankTo_bd s 0 (Int.le_refl 0) this
 have hS : St w M w M [] := St.start hM
 refine CW.weaken [0] (L' := [Y 0 (str s)]) ?_ rfl
 refine CW.sr ?_
 have hS1 := hS.ownNil 33 9
 replace hS1 : St w M w M [.own 33 9 (.slice none 0 0) (([] : List Tk)).length ((([] : List Tk)).flatMap Tk.cells)] := hS1
 refine RL.u (.assign .c) rfl (RL.u (.assign .c) rfl (RL.u (.assign .c) rfl ?_))
 refine RL.nil (CW.at [Y 0 (str s)] rfl ?_)
 refine CW.sr ?_
 refine RL.alloc hS1 Tryz.zeroValue51 rfl (fun w2 b3 hS4 => ?_)
 replace hS4 : St w M w2 M [.box b3 [(.int .u32 0), (.int .i32 0), (.int .u32 0), (.map none)] 51, .own 33 9 (.slice none 0 0) (([] : List Tk)).length ((([] : List Tk)).flatMap Tk.cells)] := hS4
 refine RL.nil (CW.at [Y 0 (str s), Y 5 (.pointer (some ⟨b3, 0, none⟩))] rfl ?_)
 refine CW.sr ?_
 have hS5 := hS4.ownNil 33 9
 replace hS5 : St w M w2 M [.own 33 9 (.slice none 0 0) (([] : List Tk)).length ((([] : List Tk)).flatMap Tk.cells), .box b3 [(.int .u32 0), (.int .i32 0), (.int .u32 0), (.map none)] 51, .own 33 9 (.slice none 0 0) (([] : List Tk)).length ((([] : List Tk)).flatMap Tk.cells)] := hS5
 refine RL.u (.assign .c) rfl ?_
 refine RL.nil (CW.at [Y 0 (str s), Y 5 (.pointer (some ⟨b3, 0, none⟩)), Y 6 (.slice none 0 0)] rfl ?_)
 refine CW.sr ?_
 refine RL.m rfl rfl ?_
 refine RL.callE hS5 .none Tryz.call15 (.cons (.t rfl) (.cons .c .nil)) (fun _ => (trimB_c (s) _)) rfl (fun w6 hS7 => ?_)
 refine RL.a rfl rfl ?_
 refine RL.nil (CW.at [Y 0 (str s), Y 5 (.pointer (some ⟨b3, 0, none⟩)), Y 6 (.slice none 0 0), Y 7 (str (dropB (s)))] rfl ?_)
 refine CW.seq ?_
 refine CW.block ?_
 have hS8 := hS7.ownNil 9 1
 replace hS8 : St w M w6 M [.own 9 1 (.slice none 0 0) (([] : List Str)).length ((([] : List Str)).flatMap strC), .own 33 9 (.slice none 0 0) (([] : List Tk)).length ((([] : List Tk)).flatMap Tk.cells), .box b3 [(.int .u32 0), (.int .i32 0), (.int .u32 0), (.map none)] 51, .own 33 9 (.slice none 0 0) (([] : List Tk)).length ((([] : List Tk)).flatMap Tk.cells)] := hS8
 refine CW.loop (σ := Nat × Int × Str × List Tk × Value × List Value × HO × Mem) (fun (f, i, r, acc, va, cs, X, Ml) => [Y 0 (str s), Y 5 (.pointer (some ⟨b3, 0, none⟩)), Y 6 (va), Y 7 (str r)]) (fun (f, i, r, acc, va, cs, X, Ml) wl => St w M wl Ml [X, .own 33 9 (va) (acc).length ((acc).flatMap Tk.cells), .box b3 cs 51, .own 33 9 (.slice none 0 0) (([] : List Tk)).length ((([] : List Tk)).flatMap Tk.cells)] ∧ 0 ≤ i ∧ i ≤ len s ∧ r = from' s i ∧ lexGo f s i acc = lexP s ∧ (len s - i).toNat ≤ f ∧ len acc ≤ i ∧ MarkOk Ml cs X) (fun (f, i, r, acc, va, cs, X, Ml) => (len s - i).toNat) ((s.length, blankTo s 0, dropB s, [], .slice none 0 0, [.int .u32 0, .int .i32 0, .int .u32 0, .map none], .own 9 1 (.slice none 0 0) 0 [], M)) [0, 5, 6, 7] rfl ?_ ?_
 ·refine ⟨hS8, ?_⟩; exact ⟨by omega, by omega, dropB_from s 0 (Int.le_refl 0), rfl, by unfold len; omega, by rw [len_nil]; omega, .inl ⟨rfl, rfl⟩⟩
 ·rintro ⟨f, i, r, acc, va, cs, X, Ml⟩ wl ⟨hS9, h0, h1, hr, hF, hf, hacc, hmk⟩
  have hl := from_len s i h0 h1
  have hlr : len r = len s - i := by rw [hr]; exact hl
  have hat : len s - len r = i := by omega
  have hdr : ∀ n, 0 ≤ n → dropB (from' r n) = from' s (blankTo s (i + n)) := fun n hn => by rw [hr, from_from s i n h0 hn, dropB_from _ _ (by omega)]
  refine CW.seq ?_
  refine CW.sr ?_
  refine RL.m rfl rfl (RL.u (.sneq (.t rfl) .c) rfl ?_)
  refine RL.nil (CW.at [Y 0 (str s), Y 5 (.pointer (some ⟨b3, 0, none⟩)), Y 6 (va), Y 7 (str r), Y 15 (.bool (!((r) == ([]))))] rfl ?_)
  refine CW.cond rfl (fun hb1 => ?_) (fun hb1 => ?_)
  ·try simp only [zb] at hb1
   have hlt : i < len s := by have := len_pos hb1; omega
   have htb := tokP_bd (s := r) (by omega)
   refine CW.skip (CW.at [Y 0 (str s), Y 5 (.pointer (some ⟨b3, 0, none⟩)), Y 6 (va), Y 7 (str r)] rfl ?_)
   refine CW.block ?_
   refine CW.sr ?_
   refine RL.m rfl rfl (RL.u (.lenS (.t rfl) Tryz.underlying9) rfl (RL.m rfl rfl (RL.u (.lenS (.t rfl) Tryz.underlying9) rfl (RL.u (.sub (.t rfl) (.t rfl) (fun _ => by omega)) rfl (RL.a rfl rfl ?_)))))
   refine RL.nil (CW.at [Y 0 (str s), Y 5 (.pointer (some ⟨b3, 0, none⟩)), Y 6 (va), Y 7 (str r), Y 8 (i64 ((len (s)) - (len (r))))] rfl ?_)
   refine CW.sr ?_
   refine RL.m rfl rfl ?_
   replace hS9 : St w M wl Ml [X, .own 33 9 (va) (acc).length ((acc).flatMap Tk.cells), .box b3 cs 51, .own 33 9 (.slice none 0 0) (([] : List Tk)).length ((([] : List Tk)).flatMap Tk.cells)] := hS9.front 0 rfl rfl
   replace hS9 : St w M wl Ml [.box b3 cs 51, X, .own 33 9 (va) (acc).length ((acc).flatMap Tk.cells), .own 33 9 (.slice none 0 0) (([] : List Tk)).length ((([] : List Tk)).flatMap Tk.cells)] := hS9.front 2 rfl rfl
   refine RL.callP Tryz.call16 (.cons (.t rfl) (.cons (.t rfl) .nil)) (token_c (Rs := [.own 33 9 (va) (acc).length ((acc).flatMap Tk.cells), .own 33 9 (.slice none 0 0) (([] : List Tk)).length ((([] : List Tk)).flatMap Tk.cells)]) b3 cs X (r) hS9 (by assumption) hg (by omega) (by omega)) rfl ?_
   rintro v13 w14 ⟨cs10, X11, M15, rfl, hm12, hS16, hle17⟩
   replace hS16 : St w M w14 M15 [.box b3 cs10 51, X11, .own 33 9 (va) (acc).length ((acc).flatMap Tk.cells), .own 33 9 (.slice none 0 0) (([] : List Tk)).length ((([] : List Tk)).flatMap Tk.cells)] := hS16
   refine RL.m rfl rfl (RL.u (.ex (.t rfl) rfl) rfl (RL.u (.ex (.t rfl) rfl) rfl (RL.u (.ex (.t rfl) rfl) rfl ?_)))
   refine RL.alloc hS16 Tryz.zeroValue33 rfl (fun w18 b19 hS20 => ?_)
   replace hS20 : St w M w18 M15 [.box b19 [(i64 0), (str []), (i64 0), (i64 0), (str []), (str []), (.bool false), (i64 0), (i64 0)] 33, .box b3 cs10 51, X11, .own 33 9 (va) (acc).length ((acc).flatMap Tk.cells), .own 33 9 (.slice none 0 0) (([] : List Tk)).length ((([] : List Tk)).flatMap Tk.cells)] := hS20
   refine RL.st hS20 (i := 0) rfl (.t rfl) (.t rfl) Tryz.sizeOf33 rfl rfl rfl (Hs' := [.box b19 (tkC ((tokP (r)).1) []) 33, .box b3 cs10 51, X11, .own 33 9 (va) (acc).length ((acc).flatMap Tk.cells), .own 33 9 (.slice none 0 0) (([] : List Tk)).length ((([] : List Tk)).flatMap Tk.cells)]) rfl rfl (fun w21 hS22 => ?_)
   refine RL.a rfl rfl (RL.a rfl rfl ?_)
   refine RL.nil (CW.at [Y 0 (str s), Y 5 (.pointer (some ⟨b3, 0, none⟩)), Y 6 (va), Y 7 (str r), Y 8 (i64 ((len (s)) - (len (r)))), Y 9 (.pointer (some ⟨b19, 0, none⟩)), Y 10 (i64 ((tokP (r)).2.1)), Y 11 (i64 ((tokP (r)).2.2))] rfl ?_)
   refine CW.seq ?_
   refine CW.sr ?_
   refine RL.m rfl rfl (RL.u (.neq (.t rfl) .c) rfl ?_)
   refine RL.nil (CW.at [Y 0 (str s), Y 5 (.pointer (some ⟨b3, 0, none⟩)), Y 6 (va), Y 7 (str r), Y 8 (i64 ((len (s)) - (len (r)))), Y 9 (.pointer (some ⟨b19, 0, none⟩)), Y 10 (i64 ((tokP (r)).2.1)), Y 11 (i64 ((tokP (r)).2.2)), Y 28 (.bool (((tokP (r)).2.2) != (0)))] rfl ?_)
   refine CW.cond rfl (fun hb2 => ?_) (fun hb2 => ?_)
   ·try simp only [zb] at hb2
    refine CW.sr ?_
    refine RL.m rfl rfl (RL.m rfl rfl (RL.u (.add (.t rfl) (.t rfl) (fun _ => by omega)) rfl (RL.m rfl rfl ?_)))
    have hS23 := hS22.ownNil 33 9
    replace hS23 : St w M w21 M15 [.own 33 9 (.slice none 0 0) (([] : List Tk)).length ((([] : List Tk)).flatMap Tk.cells), .box b19 (tkC ((tokP (r)).1) []) 33, .box b3 cs10 51, X11, .own 33 9 (va) (acc).length ((acc).flatMap Tk.cells), .own 33 9 (.slice none 0 0) (([] : List Tk)).length ((([] : List Tk)).flatMap Tk.cells)] := hS23
    refine RL.u (.assign .c) rfl (RL.a rfl rfl (RL.a rfl rfl ?_))
    refine RL.nil (CW.at [Y 2 (.slice none 0 0), Y 3 (i64 (((len (s)) - (len (r))) + ((tokP (r)).2.1))), Y 4 (i64 ((tokP (r)).2.2))] rfl ?_)
    refine CW.ret (ret3 (P := Tryz.prog) (fn := Tryz.f9) (R := fun e w' => ∃ v M', e = .returned v ∧ (∃ u, v = .tuple #[u, i64 (lexP s).2.1, i64 (lexP s).2.2] ∧ Sl M' 9 (lexP s).1.length u ((lexP s).1.flatMap Tk.cells)) ∧ Grow w M w' M') rfl rfl rfl rfl ?_)
    have hq : lexP s = ([], len s - len r + (tokP r).2.1, (tokP r).2.2) := by rw [← hF, lexGo_eq hf hlt, ← hr, if_pos (by simpa using hb2), hat]
    exact ⟨_, _, rfl, ⟨_, by rw [hq], by rw [hq]; exact Sl.nil _ 9⟩, hS23.done⟩
   ·try simp only [zb] at hb2
    have hn1 := htb.2.2.1 hb2
    have hbb := blankTo_bd s (i + (tokP r).2.1) (by omega) (by omega)
    refine CW.skip (CW.at [Y 0 (str s), Y 5 (.pointer (some ⟨b3, 0, none⟩)), Y 6 (va), Y 7 (str r), Y 8 (i64 ((len (s)) - (len (r)))), Y 9 (.pointer (some ⟨b19, 0, none⟩)), Y 10 (i64 ((tokP (r)).2.1))] rfl ?_)
    refine CW.sr ?_
    refine RL.m rfl rfl (RL.u (.fldA (q := ⟨b19, 8, none⟩) (.t rfl) (fun w => by kernel_rfl)) rfl ?_)
    refine RL.st hS22 (i := 0) rfl (.t rfl) (.t rfl) Tryz.sizeOf3 rfl rfl rfl (Hs' := [.box b19 ((i64 (((tokP (r)).1).kind)) :: ((str (((tokP (r)).1).s)) :: (ndC (((tokP (r)).1).c) ((i64 ((len (s)) - (len (r)))) :: [])))) 33, .box b3 cs10 51, X11, .own 33 9 (va) (acc).length ((acc).flatMap Tk.cells), .own 33 9 (.slice none 0 0) (([] : List Tk)).length ((([] : List Tk)).flatMap Tk.cells)]) rfl rfl (fun w24 hS25 => ?_)
    refine RL.nil (CW.at [Y 0 (str s), Y 5 (.pointer (some ⟨b3, 0, none⟩)), Y 6 (va), Y 7 (str r), Y 9 (.pointer (some ⟨b19, 0, none⟩)), Y 10 (i64 ((tokP (r)).2.1))] rfl ?_)
    refine CW.sr ?_
    refine RL.m rfl rfl (RL.u (.loadBN (vs := ((i64 (((tokP (r)).1).kind)) :: ((str (((tokP (r)).1).s)) :: (ndC (((tokP (r)).1).c) ((i64 ((len (s)) - (len (r)))) :: []))))) hS25 extEq (i := 0) rfl (.t rfl) Tryz.isAgg33 Tryz.sizeOf33 rfl rfl) rfl ?_)
    refine RL.buildSlice (n := 1) (sz := 9) (e := 33) (vs := [(0, (.agg ⟨((i64 (((tokP (r)).1).kind)) :: ((str (((tokP (r)).1).s)) :: (ndC (((tokP (r)).1).c) ((i64 ((len (s)) - (len (r)))) :: []))))⟩))]) (cs := [(i64 (((tokP (r)).1).kind)), (str (((tokP (r)).1).s)), (i64 (((tokP (r)).1).c.kind)), (i64 (((tokP (r)).1).c.many)), (str (((tokP (r)).1).c.name)), (str (((tokP (r)).1).c.s)), (.bool (((tokP (r)).1).c.neg)), (i64 (((tokP (r)).1).c.e)), (i64 ((len (s)) - (len (r))))]) hS25 (.cons (.t rfl) .nil) rfl rfl (fun w => by kernel_rfl) rfl (fun v26 w27 M28 hS29 hle30 => ?_)
    replace hS29 : St w M w27 M28 [.own 33 9 (v26) (([(⟨((tokP (r)).1).kind, ((tokP (r)).1).s, ((tokP (r)).1).c, (len (s)) - (len (r))⟩ : Tk)] : List Tk)).length ((([(⟨((tokP (r)).1).kind, ((tokP (r)).1).s, ((tokP (r)).1).c, (len (s)) - (len (r))⟩ : Tk)] : List Tk)).flatMap Tk.cells), .box b19 ((i64 (((tokP (r)).1).kind)) :: ((str (((tokP (r)).1).s)) :: (ndC (((tokP (r)).1).c) ((i64 ((len (s)) - (len (r)))) :: [])))) 33, .box b3 cs10 51, X11, .own 33 9 (va) (acc).length ((acc).flatMap Tk.cells), .own 33 9 (.slice none 0 0) (([] : List Tk)).length ((([] : List Tk)).flatMap Tk.cells)] := hS29
    refine RL.append1 (f := Tk.cells) (l := acc) (y := (⟨((tokP (r)).1).kind, ((tokP (r)).1).s, ((tokP (r)).1).c, (len (s)) - (len (r))⟩ : Tk)) hS29 (k := 4) rfl (.t rfl) (.t rfl) (hS29.sl (i := 0) rfl) Tryz.underlying23 Tryz.type33 rfl rfl rfl Tk.cells_one (by' := 96) rfl rfl (by omega) rfl (Hs' := fun v' => [.own 33 9 (v26) (([(⟨((tokP (r)).1).kind, ((tokP (r)).1).s, ((tokP (r)).1).c, (len (s)) - (len (r))⟩ : Tk)] : List Tk)).length ((([(⟨((tokP (r)).1).kind, ((tokP (r)).1).s, ((tokP (r)).1).c, (len (s)) - (len (r))⟩ : Tk)] : List Tk)).flatMap Tk.cells), .box b19 ((i64 (((tokP (r)).1).kind)) :: ((str (((tokP (r)).1).s)) :: (ndC (((tokP (r)).1).c) ((i64 ((len (s)) - (len (r)))) :: [])))) 33, .box b3 cs10 51, X11, .own 33 9 (v') (acc ++ [(⟨((tokP (r)).1).kind, ((tokP (r)).1).s, ((tokP (r)).1).c, (len (s)) - (len (r))⟩ : Tk)]).length ((acc ++ [(⟨((tokP (r)).1).kind, ((tokP (r)).1).s, ((tokP (r)).1).c, (len (s)) - (len (r))⟩ : Tk)]).flatMap Tk.cells), .own 33 9 (.slice none 0 0) (([] : List Tk)).length ((([] : List Tk)).flatMap Tk.cells)]) (fun _ => rfl) (fun v31 w32 M33 hS34 hle35 => ?_)
    replace hS34 : St w M w32 M33 [.box b19 ((i64 (((tokP (r)).1).kind)) :: ((str (((tokP (r)).1).s)) :: (ndC (((tokP (r)).1).c) ((i64 ((len (s)) - (len (r)))) :: [])))) 33, .box b3 cs10 51, X11, .own 33 9 (v31) (acc ++ [(⟨((tokP (r)).1).kind, ((tokP (r)).1).s, ((tokP (r)).1).c, (len (s)) - (len (r))⟩ : Tk)]).length ((acc ++ [(⟨((tokP (r)).1).kind, ((tokP (r)).1).s, ((tokP (r)).1).c, (len (s)) - (len (r))⟩ : Tk)]).flatMap Tk.cells), .own 33 9 (.slice none 0 0) (([] : List Tk)).length ((([] : List Tk)).flatMap Tk.cells)] := hS34.erase 0 rfl
    refine RL.a rfl rfl ?_
    refine RL.nil (CW.at [Y 0 (str s), Y 5 (.pointer (some ⟨b3, 0, none⟩)), Y 6 (v31), Y 7 (str r), Y 10 (i64 ((tokP (r)).2.1))] rfl ?_)
    refine CW.region ?_
    refine RL.m rfl rfl (RL.m rfl rfl (RL.u (.slSl (.t rfl) (.t rfl) Tryz.underlying9 (fun _ => by omega)) rfl ?_))
    refine RL.callE hS34 .none Tryz.call15 (.cons (.t rfl) (.cons .c .nil)) (fun _ => (trimB_c (Eng.from' (r) ((tokP (r)).2.1)) _)) rfl (fun w36 hS37 => ?_)
    refine RL.a rfl rfl ?_
    replace hS37 : St w M w36 M33 [.box b3 cs10 51, X11, .own 33 9 (v31) (acc ++ [(⟨((tokP (r)).1).kind, ((tokP (r)).1).s, ((tokP (r)).1).c, (len (s)) - (len (r))⟩ : Tk)]).length ((acc ++ [(⟨((tokP (r)).1).kind, ((tokP (r)).1).s, ((tokP (r)).1).c, (len (s)) - (len (r))⟩ : Tk)]).flatMap Tk.cells), .own 33 9 (.slice none 0 0) (([] : List Tk)).length ((([] : List Tk)).flatMap Tk.cells)] := hS37.erase 0 rfl
    replace hS37 : St w M w36 M33 [.own 33 9 (.slice none 0 0) (([] : List Tk)).length ((([] : List Tk)).flatMap Tk.cells), .box b3 cs10 51, X11, .own 33 9 (v31) (acc ++ [(⟨((tokP (r)).1).kind, ((tokP (r)).1).s, ((tokP (r)).1).c, (len (s)) - (len (r))⟩ : Tk)]).length ((acc ++ [(⟨((tokP (r)).1).kind, ((tokP (r)).1).s, ((tokP (r)).1).c, (len (s)) - (len (r))⟩ : Tk)]).flatMap Tk.cells)] := hS37.front 3 rfl rfl
    replace hS37 : St w M w36 M33 [.box b3 cs10 51, .own 33 9 (.slice none 0 0) (([] : List Tk)).length ((([] : List Tk)).flatMap Tk.cells), X11, .own 33 9 (v31) (acc ++ [(⟨((tokP (r)).1).kind, ((tokP (r)).1).s, ((tokP (r)).1).c, (len (s)) - (len (r))⟩ : Tk)]).length ((acc ++ [(⟨((tokP (r)).1).kind, ((tokP (r)).1).s, ((tokP (r)).1).c, (len (s)) - (len (r))⟩ : Tk)]).flatMap Tk.cells)] := hS37.front 1 rfl rfl
    replace hS37 : St w M w36 M33 [.own 33 9 (v31) (acc ++ [(⟨((tokP (r)).1).kind, ((tokP (r)).1).s, ((tokP (r)).1).c, (len (s)) - (len (r))⟩ : Tk)]).length ((acc ++ [(⟨((tokP (r)).1).kind, ((tokP (r)).1).s, ((tokP (r)).1).c, (len (s)) - (len (r))⟩ : Tk)]).flatMap Tk.cells), .box b3 cs10 51, .own 33 9 (.slice none 0 0) (([] : List Tk)).length ((([] : List Tk)).flatMap Tk.cells), X11] := hS37.front 3 rfl rfl
    replace hS37 : St w M w36 M33 [X11, .own 33 9 (v31) (acc ++ [(⟨((tokP (r)).1).kind, ((tokP (r)).1).s, ((tokP (r)).1).c, (len (s)) - (len (r))⟩ : Tk)]).length ((acc ++ [(⟨((tokP (r)).1).kind, ((tokP (r)).1).s, ((tokP (r)).1).c, (len (s)) - (len (r))⟩ : Tk)]).flatMap Tk.cells), .box b3 cs10 51, .own 33 9 (.slice none 0 0) (([] : List Tk)).length ((([] : List Tk)).flatMap Tk.cells)] := hS37.front 3 rfl rfl
    refine RL.nil fun a hs => Exists.intro ((f - 1, blankTo s (i + (tokP r).2.1), dropB (Eng.from' (r) ((tokP (r)).2.1)), acc ++ [(⟨((tokP (r)).1).kind, ((tokP (r)).1).s, ((tokP (r)).1).c, (len (s)) - (len (r))⟩ : Tk)], v31, cs10, X11, M33)) ⟨hs.keep [0, 5, 6, 7], ?_, ?_⟩
    ·refine ⟨hS37, ?_⟩
     exact ⟨by omega, by omega, hdr _ (by omega), by rw [← hF, lexGo_eq hf hlt, ← hr, if_neg (by simpa using hb2), hat], by omega, by rw [len_app, len_cons, len_nil]; omega, MarkOk.mono hm12 ((hle30.trans hle35))⟩
    ·show Int.toNat _ < Int.toNat _; omega
  ·try simp only [zb] at hb1
   have hge : ¬ i < len s := by rw [hb1, len_nil] at hlr; omega
   refine CW.exit (CW.at [Y 0 (str s), Y 6 (va)] rfl ?_)
   refine CW.sr ?_
   refine RL.m rfl rfl (RL.m rfl rfl (RL.u (.lenS (.t rfl) Tryz.underlying9) rfl (RL.u (.build (vs := [(0, (i64 6)), (3, (i64 (len (s))))]) (v := (.agg #[(i64 6), (str []), (i64 0), (i64 0), (str []), (str []), (.bool false), (i64 0), (i64 (len (s)))])) (.cons .c (.cons (.t rfl) .nil)) (fun w => by kernel_rfl)) rfl ?_)))
   refine RL.buildSlice (n := 1) (sz := 9) (e := 33) (vs := [(0, (.agg #[(i64 6), (str []), (i64 0), (i64 0), (str []), (str []), (.bool false), (i64 0), (i64 (len (s)))]))]) (cs := [(i64 6), (str []), (i64 0), (i64 0), (str []), (str []), (.bool false), (i64 0), (i64 (len (s)))]) hS9 (.cons (.t rfl) .nil) rfl rfl (fun w => by kernel_rfl) rfl (fun v38 w39 M40 hS41 hle42 => ?_)
   replace hS41 : St w M w39 M40 [.own 33 9 (v38) (([(⟨6, [], ⟨0, 0, [], [], false, 0⟩, len (s)⟩ : Tk)] : List Tk)).length ((([(⟨6, [], ⟨0, 0, [], [], false, 0⟩, len (s)⟩ : Tk)] : List Tk)).flatMap Tk.cells), X, .own 33 9 (va) (acc).length ((acc).flatMap Tk.cells), .box b3 cs 51, .own 33 9 (.slice none 0 0) (([] : List Tk)).length ((([] : List Tk)).flatMap Tk.cells)] := hS41
   refine RL.append1 (f := Tk.cells) (l := acc) (y := (⟨6, [], ⟨0, 0, [], [], false, 0⟩, len (s)⟩ : Tk)) hS41 (k := 2) rfl (.t rfl) (.t rfl) (hS41.sl (i := 0) rfl) Tryz.underlying23 Tryz.type33 rfl rfl rfl Tk.cells_one (by' := 96) rfl rfl (by omega) rfl (Hs' := fun v' => [.own 33 9 (v38) (([(⟨6, [], ⟨0, 0, [], [], false, 0⟩, len (s)⟩ : Tk)] : List Tk)).length ((([(⟨6, [], ⟨0, 0, [], [], false, 0⟩, len (s)⟩ : Tk)] : List Tk)).flatMap Tk.cells), X, .own 33 9 (v') (acc ++ [(⟨6, [], ⟨0, 0, [], [], false, 0⟩, len (s)⟩ : Tk)]).length ((acc ++ [(⟨6, [], ⟨0, 0, [], [], false, 0⟩, len (s)⟩ : Tk)]).flatMap Tk.cells), .box b3 cs 51, .own 33 9 (.slice none 0 0) (([] : List Tk)).length ((([] : List Tk)).flatMap Tk.cells)]) (fun _ => rfl) (fun v43 w44 M45 hS46 hle47 => ?_)
   replace hS46 : St w M w44 M45 [X, .own 33 9 (v43) (acc ++ [(⟨6, [], ⟨0, 0, [], [], false, 0⟩, len (s)⟩ : Tk)]).length ((acc ++ [(⟨6, [], ⟨0, 0, [], [], false, 0⟩, len (s)⟩ : Tk)]).flatMap Tk.cells), .box b3 cs 51, .own 33 9 (.slice none 0 0) (([] : List Tk)).length ((([] : List Tk)).flatMap Tk.cells)] := hS46.erase 0 rfl
   refine RL.a rfl rfl (RL.u (.assign .c) rfl (RL.u (.assign .c) rfl ?_))
   refine RL.nil (CW.at [Y 2 (v43), Y 3 (i64 0), Y 4 (i64 0)] rfl ?_)
   refine CW.ret (ret3 (P := Tryz.prog) (fn := Tryz.f9) (R := fun e w' => ∃ v M', e = .returned v ∧ (∃ u, v = .tuple #[u, i64 (lexP s).2.1, i64 (lexP s).2.2] ∧ Sl M' 9 (lexP s).1.length u ((lexP s).1.flatMap Tk.cells)) ∧ Grow w M w' M') rfl rfl rfl rfl ?_)
   have hq : lexP s = (acc ++ [endTk s], 0, 0) := by rw [← hF, lexGo_end hge]
   exact ⟨_, _, rfl, ⟨_, by rw [hq], by rw [hq]; exact hS46.sl (i := 1) rfl⟩, hS46.done⟩

/- loupe/lex.Text -/
set_option maxRecDepth 100000 in
theorem textP_c (M : Mem) (l : List Tk) (v : Value) (w : World) (hM : Sat w M) (hl : Sl M 9 l.length v (l.flatMap Tk.cells)) (hg : Gl w) (hb : ∀ t ∈ l, TkB t) (hn : len l ≤ 1048576) :
  Calls Tryz.prog 13 [(v)].toArray w fun e w' => e = .returned (str (textP l)) ∧ Ext w w' := by
 refine CW.enter Tryz.func13 rfl Tryz.ntmps13 (Nat.le_of_ble_eq_true rfl) ?_
 have := len_nonneg l
 have htl := textP_len hb
 have hS : St w M w M [] := St.start hM
 refine CW.weaken [0] (L' := [Y 0 (v)]) ?_ rfl
 refine CW.sr ?_
 refine RL.u (.assign .c) rfl ?_
 refine RL.nil (CW.at [Y 0 (v)] rfl ?_)
 refine CW.sr ?_
 have hS1 := hS.ownNil 9 1
 replace hS1 : St w M w M [.own 9 1 (.slice none 0 0) (([] : List Str)).length ((([] : List Str)).flatMap strC)] := hS1
 refine RL.u (.assign .c) rfl ?_
 refine RL.nil (CW.at [Y 0 (v), Y 3 (.slice none 0 0)] rfl ?_)
 refine CW.seq ?_
 refine CW.sr ?_
 refine RL.m rfl rfl (RL.u (.lenT hl (.t rfl) ⟨_, Tryz.underlying23⟩) rfl (RL.u (.move .c) rfl ?_))
 refine RL.nil (CW.at [Y 3 (.slice none 0 0), Y 7 (v), Y 8 (i64 (len (l))), Y 9 (i64 0)] rfl ?_)
 refine CW.block ?_
 refine CW.loop (σ := Int × List Str × Value × Mem) (fun (k, o, vo, Ml) => [Y 3 (vo), Y 7 (v), Y 8 (i64 (len (l))), Y 9 (i64 k)]) (fun (k, o, vo, Ml) wl => St w M wl Ml [.own 9 1 (vo) (o).length ((o).flatMap strC)] ∧ Sl Ml 9 (l).length (v) ((l).flatMap Tk.cells) ∧ 0 ≤ k ∧ k ≤ len l ∧ o = textsP (Eng.sub l 0 k) ∧ len o ≤ k) (fun (k, o, vo, Ml) => (len l - k).toNat) ((0, [], .slice none 0 0, M)) [3, 7, 8, 9] rfl ?_ ?_
 ·refine ⟨hS1, hl, ?_⟩; exact ⟨by omega, by omega, rfl, by decide⟩
 ·rintro ⟨k, o, vo, Ml⟩ wl ⟨hS2, hl, hk0, hk1, hF, hlen⟩
  refine CW.sr ?_
  refine RL.u (.lss (.t rfl) (.t rfl)) rfl ?_
  refine RL.nil (CW.at [Y 3 (vo), Y 7 (v), Y 8 (i64 (len (l))), Y 9 (i64 k), Y 10 (.bool (decide ((k) < (len (l)))))] rfl ?_)
  refine CW.seq ?_
  refine CW.cond rfl (fun hb1 => ?_) (fun hb1 => ?_)
  ·try simp only [zb] at hb1
   have hbk : TkB (at' l k) := hb _ (at'_mem hk0 hb1)
   have hqk := quoteP_len (at' l k).s
   have hbk1 := hbk.1
   have hbk2 := hbk.2.1
   refine CW.skip (CW.at [Y 3 (vo), Y 7 (v), Y 8 (i64 (len (l))), Y 9 (i64 k)] rfl ?_)
   refine CW.seq ?_
   refine CW.block ?_
   refine CW.sr ?_
   refine RL.u (.idxT hl (.t rfl) (.t rfl) Tryz.underlying23 Tryz.sizeOf33 (fun _ => by first | omega | (simp only [len_app, len_cons, len_nil]; omega))) rfl (RL.u (.loadEN (f := Tk.cells) (i := k) hS2 extEq hl Tk.cells_len (.t rfl) Tryz.isAgg33 Tryz.sizeOf33 (fun _ => by first | omega | (simp only [len_app, len_cons, len_nil]; omega))) rfl ?_)
   refine RL.alloc hS2 Tryz.zeroValue33 rfl (fun w3 b4 hS5 => ?_)
   replace hS5 : St w M w3 Ml [.box b4 [(i64 0), (str []), (i64 0), (i64 0), (str []), (str []), (.bool false), (i64 0), (i64 0)] 33, .own 9 1 (vo) (o).length ((o).flatMap strC)] := hS5
   refine RL.st hS5 (i := 0) rfl (.t rfl) (.t rfl) Tryz.sizeOf33 rfl rfl rfl (Hs' := [.box b4 (tkC (at' (l) (k)) []) 33, .own 9 1 (vo) (o).length ((o).flatMap strC)]) rfl rfl (fun w6 hS7 => ?_)
   refine RL.nil (CW.at [Y 3 (vo), Y 5 (.pointer (some ⟨b4, 0, none⟩)), Y 7 (v), Y 8 (i64 (len (l))), Y 9 (i64 k)] rfl ?_)
   refine CW.sr ?_
   refine RL.u (.fldA (q := ⟨b4, 1, none⟩) (.t rfl) (fun w => by kernel_rfl)) rfl (RL.u (.loadB1 (v := (str ((at' (l) (k)).s))) hS7 extEq (i := 0) rfl (.t rfl) Tryz.isAgg9 rfl) rfl (RL.a rfl rfl ?_))
   refine RL.nil (CW.at [Y 3 (vo), Y 5 (.pointer (some ⟨b4, 0, none⟩)), Y 6 (str ((at' (l) (k)).s)), Y 7 (v), Y 8 (i64 (len (l))), Y 9 (i64 k)] rfl ?_)
   refine CW.seq ?_
   refine CW.sr ?_
   refine RL.u (.fldA (q := ⟨b4, 0, none⟩) (.t rfl) (fun w => by kernel_rfl)) rfl (RL.u (.loadB1 (v := (i64 ((at' (l) (k)).kind))) hS7 extEq (i := 0) rfl (.t rfl) Tryz.isAgg3 rfl) rfl ?_)
   refine RL.nil (CW.at [Y 3 (vo), Y 5 (.pointer (some ⟨b4, 0, none⟩)), Y 6 (str ((at' (l) (k)).s)), Y 7 (v), Y 8 (i64 (len (l))), Y 9 (i64 k), Y 16 (i64 ((at' (l) (k)).kind))] rfl ?_)
   refine CW.block ?_
   refine CW.sr ?_
   refine RL.u (.eql (.t rfl) .c) rfl (RL.a rfl rfl ?_)
   refine RL.nil (CW.at [Y 3 (vo), Y 5 (.pointer (some ⟨b4, 0, none⟩)), Y 6 (str ((at' (l) (k)).s)), Y 7 (v), Y 8 (i64 (len (l))), Y 9 (i64 k), Y 16 (i64 ((at' (l) (k)).kind)), Y 17 (.bool (((at' (l) (k)).kind) == (6)))] rfl ?_)
   refine CW.cond rfl (fun hb2 => ?_) (fun hb2 => ?_)
   ·try simp only [zb] at hb2
    refine CW.exit (CW.at [Y 3 (vo), Y 7 (v), Y 8 (i64 (len (l))), Y 9 (i64 k)] rfl ?_)
    refine CW.region ?_
    refine RL.u (.add (.t rfl) .c (fun _ => by first | omega | (simp only [len_app, len_cons, len_nil]; omega))) rfl (RL.m rfl rfl ?_)
    replace hS7 : St w M w6 Ml [.own 9 1 (vo) (o).length ((o).flatMap strC)] := hS7.erase 0 rfl
    refine RL.nil fun a hs => Exists.intro ((k + 1, o, vo, Ml)) ⟨hs.keep [3, 7, 8, 9], ?_, ?_⟩
    ·refine ⟨hS7, hl, ?_⟩
     exact ⟨by omega, by omega, by rw [textsP_skip hk0 hb1 hb2]; exact hF, by omega⟩
    ·show Int.toNat _ < Int.toNat _; omega
   ·try simp only [zb] at hb2
    refine CW.sr ?_
    refine RL.u (.eql (.t rfl) .c) rfl (RL.a rfl rfl ?_)
    refine RL.nil (CW.at [Y 3 (vo), Y 5 (.pointer (some ⟨b4, 0, none⟩)), Y 6 (str ((at' (l) (k)).s)), Y 7 (v), Y 8 (i64 (len (l))), Y 9 (i64 k), Y 16 (i64 ((at' (l) (k)).kind)), Y 19 (.bool (((at' (l) (k)).kind) == (3)))] rfl ?_)
    refine CW.cond rfl (fun hb3 => ?_) (fun hb3 => ?_)
    ·try simp only [zb] at hb3
     refine CW.seq ?_
     refine CW.sr ?_
     refine RL.m rfl rfl ?_
     refine RL.callE hS7 .none Tryz.call20 (.cons (.t rfl) .nil) (fun _ => (word_c ((at' (l) (k)).s) _ (by omega))) rfl (fun w8 hS9 => ?_)
     refine RL.m rfl rfl (RL.u (.sneq (.t rfl) (.t rfl)) rfl (RL.m rfl rfl (RL.v (.neg rfl rfl) (.move (.t rfl)) rfl (RL.v (.neg rfl rfl) (.seql (.g rfl (fun h => h)) .c) rfl (RL.u (.or (.t rfl) (.g rfl (fun h => h))) rfl ?_)))))
     refine RL.nil (CW.at [Y 3 (vo), Y 6 (str ((at' (l) (k)).s)), Y 7 (v), Y 8 (i64 (len (l))), Y 9 (i64 k), Y 28 (.bool ((!((wordP ((at' (l) (k)).s)) == ((at' (l) (k)).s))) || (((at' (l) (k)).s) == ([]))))] rfl ?_)
     refine CW.cond rfl (fun hb4 => ?_) (fun hb4 => ?_)
     ·try simp only [zb] at hb4
      refine CW.region ?_
      refine RL.m rfl rfl ?_
      refine RL.callE hS9 .none Tryz.call21 (.cons (.t rfl) .nil) (fun _ => (quote_c ((at' (l) (k)).s) _ (hg.low hS9.low) (by omega))) rfl (fun w10 hS11 => ?_)
      refine RL.a rfl rfl ?_
      refine RL.nil (CW.at [Y 3 (vo), Y 6 (str (quoteP ((at' (l) (k)).s))), Y 7 (v), Y 8 (i64 (len (l))), Y 9 (i64 k)] rfl ?_)
      refine CW.region ?_
      refine RL.m rfl rfl (RL.u (.sadd .c (.t rfl) (fun _ => by first | omega | (simp only [len_app, len_cons, len_nil]; omega))) rfl (RL.a rfl rfl ?_))
      refine RL.nil (CW.at [Y 3 (vo), Y 6 (str (([46]) ++ (quoteP ((at' (l) (k)).s)))), Y 7 (v), Y 8 (i64 (len (l))), Y 9 (i64 k)] rfl ?_)
      refine CW.region ?_
      refine RL.m rfl rfl (RL.m rfl rfl ?_)
      refine RL.buildSlice (n := 1) (sz := 1) (e := 9) (vs := [(0, (str (([46]) ++ (quoteP ((at' (l) (k)).s)))))]) (cs := [(str (([46]) ++ (quoteP ((at' (l) (k)).s))))]) hS11 (.cons (.t rfl) .nil) rfl rfl (fun w => by kernel_rfl) rfl (fun v12 w13 M14 hS15 hle16 => ?_)
      replace hS15 : St w M w13 M14 [.own 9 1 (v12) (([([46]) ++ (quoteP ((at' (l) (k)).s))] : List Str)).length ((([([46]) ++ (quoteP ((at' (l) (k)).s))] : List Str)).flatMap strC), .box b4 (tkC (at' (l) (k)) []) 33, .own 9 1 (vo) (o).length ((o).flatMap strC)] := hS15
      replace hl := hl.mono hle16
      refine RL.append1 (f := strC) (l := o) (y := ([46]) ++ (quoteP ((at' (l) (k)).s))) hS15 (k := 2) rfl (.t rfl) (.t rfl) (hS15.sl (i := 0) rfl) Tryz.underlying60 Tryz.type9 rfl rfl rfl strC_one (by' := 16) rfl rfl (by first | omega | (simp only [len_app, len_cons, len_nil]; omega)) rfl (Hs' := fun v' => [.own 9 1 (v12) (([([46]) ++ (quoteP ((at' (l) (k)).s))] : List Str)).length ((([([46]) ++ (quoteP ((at' (l) (k)).s))] : List Str)).flatMap strC), .box b4 (tkC (at' (l) (k)) []) 33, .own 9 1 (v') (o ++ [([46]) ++ (quoteP ((at' (l) (k)).s))]).length ((o ++ [([46]) ++ (quoteP ((at' (l) (k)).s))]).flatMap strC)]) (fun _ => rfl) (fun v17 w18 M19 hS20 hle21 => ?_)
      replace hS20 : St w M w18 M19 [.box b4 (tkC (at' (l) (k)) []) 33, .own 9 1 (v17) (o ++ [([46]) ++ (quoteP ((at' (l) (k)).s))]).length ((o ++ [([46]) ++ (quoteP ((at' (l) (k)).s))]).flatMap strC)] := hS20.erase 0 rfl
      replace hl := hl.mono hle21
      refine RL.a rfl rfl ?_
      refine RL.nil (CW.at [Y 3 (v17), Y 7 (v), Y 8 (i64 (len (l))), Y 9 (i64 k)] rfl ?_)
      refine CW.region ?_
      refine RL.u (.add (.t rfl) .c (fun _ => by first | omega | (simp only [len_app, len_cons, len_nil]; omega))) rfl (RL.m rfl rfl ?_)
      replace hS20 : St w M w18 M19 [.own 9 1 (v17) (o ++ [([46]) ++ (quoteP ((at' (l) (k)).s))]).length ((o ++ [([46]) ++ (quoteP ((at' (l) (k)).s))]).flatMap strC)] := hS20.erase 0 rfl
      refine RL.nil fun a hs => Exists.intro ((k + 1, o ++ [([46]) ++ (quoteP ((at' (l) (k)).s))], v17, M19)) ⟨hs.keep [3, 7, 8, 9], ?_, ?_⟩
      ·refine ⟨hS20, hl, ?_⟩
       exact ⟨by omega, by omega, by rw [textsP_step hk0 hb1 (by omega), ← hF]; unfold oneP; rw [if_pos (by first | assumption | omega | (simp_all; done) | grind), if_pos (by first | assumption | omega | (simp_all; done) | grind)]; try rfl, by rw [len_app, len_cons, len_nil]; omega⟩
      ·show Int.toNat _ < Int.toNat _; omega
     ·try simp only [zb] at hb4
      refine CW.skip (CW.at [Y 3 (vo), Y 6 (str ((at' (l) (k)).s)), Y 7 (v), Y 8 (i64 (len (l))), Y 9 (i64 k)] rfl ?_)
      refine CW.region ?_
      refine RL.m rfl rfl (RL.u (.sadd .c (.t rfl) (fun _ => by first | omega | (simp only [len_app, len_cons, len_nil]; omega))) rfl (RL.a rfl rfl ?_))
      refine RL.nil (CW.at [Y 3 (vo), Y 6 (str (([46]) ++ ((at' (l) (k)).s))), Y 7 (v), Y 8 (i64 (len (l))), Y 9 (i64 k)] rfl ?_)
      refine CW.region ?_
      refine RL.m rfl rfl (RL.m rfl rfl ?_)
      refine RL.buildSlice (n := 1) (sz := 1) (e := 9) (vs := [(0, (str (([46]) ++ ((at' (l) (k)).s))))]) (cs := [(str (([46]) ++ ((at' (l) (k)).s)))]) hS9 (.cons (.t rfl) .nil) rfl rfl (fun w => by kernel_rfl) rfl (fun v22 w23 M24 hS25 hle26 => ?_)
      replace hS25 : St w M w23 M24 [.own 9 1 (v22) (([([46]) ++ ((at' (l) (k)).s)] : List Str)).length ((([([46]) ++ ((at' (l) (k)).s)] : List Str)).flatMap strC), .box b4 (tkC (at' (l) (k)) []) 33, .own 9 1 (vo) (o).length ((o).flatMap strC)] := hS25
      replace hl := hl.mono hle26
      refine RL.append1 (f := strC) (l := o) (y := ([46]) ++ ((at' (l) (k)).s)) hS25 (k := 2) rfl (.t rfl) (.t rfl) (hS25.sl (i := 0) rfl) Tryz.underlying60 Tryz.type9 rfl rfl rfl strC_one (by' := 16) rfl rfl (by first | omega | (simp only [len_app, len_cons, len_nil]; omega)) rfl (Hs' := fun v' => [.own 9 1 (v22) (([([46]) ++ ((at' (l) (k)).s)] : List Str)).length ((([([46]) ++ ((at' (l) (k)).s)] : List Str)).flatMap strC), .box b4 (tkC (at' (l) (k)) []) 33, .own 9 1 (v') (o ++ [([46]) ++ ((at' (l) (k)).s)]).length ((o ++ [([46]) ++ ((at' (l) (k)).s)]).flatMap strC)]) (fun _ => rfl) (fun v27 w28 M29 hS30 hle31 => ?_)
      replace hS30 : St w M w28 M29 [.box b4 (tkC (at' (l) (k)) []) 33, .own 9 1 (v27) (o ++ [([46]) ++ ((at' (l) (k)).s)]).length ((o ++ [([46]) ++ ((at' (l) (k)).s)]).flatMap strC)] := hS30.erase 0 rfl
      replace hl := hl.mono hle31
      refine RL.a rfl rfl ?_
      refine RL.nil (CW.at [Y 3 (v27), Y 7 (v), Y 8 (i64 (len (l))), Y 9 (i64 k)] rfl ?_)
      refine CW.region ?_
      refine RL.u (.add (.t rfl) .c (fun _ => by first | omega | (simp only [len_app, len_cons, len_nil]; omega))) rfl (RL.m rfl rfl ?_)
      replace hS30 : St w M w28 M29 [.own 9 1 (v27) (o ++ [([46]) ++ ((at' (l) (k)).s)]).length ((o ++ [([46]) ++ ((at' (l) (k)).s)]).flatMap strC)] := hS30.erase 0 rfl
      refine RL.nil fun a hs => Exists.intro ((k + 1, o ++ [([46]) ++ ((at' (l) (k)).s)], v27, M29)) ⟨hs.keep [3, 7, 8, 9], ?_, ?_⟩
      ·refine ⟨hS30, hl, ?_⟩
       exact ⟨by omega, by omega, by rw [textsP_step hk0 hb1 (by omega), ← hF]; unfold oneP; rw [if_pos (by first | assumption | omega | (simp_all; done) | grind), if_neg (by first | assumption | omega | (simp_all; done) | grind)]; try rfl, by rw [len_app, len_cons, len_nil]; omega⟩
      ·show Int.toNat _ < Int.toNat _; omega
    ·try simp only [zb] at hb3
     refine CW.sr ?_
     refine RL.u (.eql (.t rfl) .c) rfl (RL.a rfl rfl ?_)
     refine RL.nil (CW.at [Y 3 (vo), Y 5 (.pointer (some ⟨b4, 0, none⟩)), Y 6 (str ((at' (l) (k)).s)), Y 7 (v), Y 8 (i64 (len (l))), Y 9 (i64 k), Y 16 (i64 ((at' (l) (k)).kind)), Y 33 (.bool (((at' (l) (k)).kind) == (4)))] rfl ?_)
     refine CW.cond rfl (fun hb5 => ?_) (fun hb5 => ?_)
     ·try simp only [zb] at hb5
      refine CW.region ?_
      refine RL.m rfl rfl ?_
      refine RL.callE hS7 .none Tryz.call21 (.cons (.t rfl) .nil) (fun _ => (quote_c ((at' (l) (k)).s) _ (hg.low hS7.low) (by omega))) rfl (fun w32 hS33 => ?_)
      refine RL.a rfl rfl ?_
      refine RL.nil (CW.at [Y 3 (vo), Y 6 (str (quoteP ((at' (l) (k)).s))), Y 7 (v), Y 8 (i64 (len (l))), Y 9 (i64 k)] rfl ?_)
      refine CW.region ?_
      refine RL.m rfl rfl (RL.m rfl rfl ?_)
      refine RL.buildSlice (n := 1) (sz := 1) (e := 9) (vs := [(0, (str (quoteP ((at' (l) (k)).s))))]) (cs := [(str (quoteP ((at' (l) (k)).s)))]) hS33 (.cons (.t rfl) .nil) rfl rfl (fun w => by kernel_rfl) rfl (fun v34 w35 M36 hS37 hle38 => ?_)
      replace hS37 : St w M w35 M36 [.own 9 1 (v34) (([quoteP ((at' (l) (k)).s)] : List Str)).length ((([quoteP ((at' (l) (k)).s)] : List Str)).flatMap strC), .box b4 (tkC (at' (l) (k)) []) 33, .own 9 1 (vo) (o).length ((o).flatMap strC)] := hS37
      replace hl := hl.mono hle38
      refine RL.append1 (f := strC) (l := o) (y := quoteP ((at' (l) (k)).s)) hS37 (k := 2) rfl (.t rfl) (.t rfl) (hS37.sl (i := 0) rfl) Tryz.underlying60 Tryz.type9 rfl rfl rfl strC_one (by' := 16) rfl rfl (by first | omega | (simp only [len_app, len_cons, len_nil]; omega)) rfl (Hs' := fun v' => [.own 9 1 (v34) (([quoteP ((at' (l) (k)).s)] : List Str)).length ((([quoteP ((at' (l) (k)).s)] : List Str)).flatMap strC), .box b4 (tkC (at' (l) (k)) []) 33, .own 9 1 (v') (o ++ [quoteP ((at' (l) (k)).s)]).length ((o ++ [quoteP ((at' (l) (k)).s)]).flatMap strC)]) (fun _ => rfl) (fun v39 w40 M41 hS42 hle43 => ?_)
      replace hS42 : St w M w40 M41 [.box b4 (tkC (at' (l) (k)) []) 33, .own 9 1 (v39) (o ++ [quoteP ((at' (l) (k)).s)]).length ((o ++ [quoteP ((at' (l) (k)).s)]).flatMap strC)] := hS42.erase 0 rfl
      replace hl := hl.mono hle43
      refine RL.a rfl rfl ?_
      refine RL.nil (CW.at [Y 3 (v39), Y 7 (v), Y 8 (i64 (len (l))), Y 9 (i64 k)] rfl ?_)
      refine CW.region ?_
      refine RL.u (.add (.t rfl) .c (fun _ => by first | omega | (simp only [len_app, len_cons, len_nil]; omega))) rfl (RL.m rfl rfl ?_)
      replace hS42 : St w M w40 M41 [.own 9 1 (v39) (o ++ [quoteP ((at' (l) (k)).s)]).length ((o ++ [quoteP ((at' (l) (k)).s)]).flatMap strC)] := hS42.erase 0 rfl
      refine RL.nil fun a hs => Exists.intro ((k + 1, o ++ [quoteP ((at' (l) (k)).s)], v39, M41)) ⟨hs.keep [3, 7, 8, 9], ?_, ?_⟩
      ·refine ⟨hS42, hl, ?_⟩
       exact ⟨by omega, by omega, by rw [textsP_step hk0 hb1 (by omega), ← hF]; unfold oneP; rw [if_neg (by first | assumption | omega | (simp_all; done) | grind), if_pos (by first | assumption | omega | (simp_all; done) | grind)]; try rfl, by rw [len_app, len_cons, len_nil]; omega⟩
      ·show Int.toNat _ < Int.toNat _; omega
     ·try simp only [zb] at hb5
      refine CW.sr ?_
      refine RL.u (.eql (.t rfl) .c) rfl (RL.a rfl rfl ?_)
      refine RL.nil (CW.at [Y 3 (vo), Y 5 (.pointer (some ⟨b4, 0, none⟩)), Y 6 (str ((at' (l) (k)).s)), Y 7 (v), Y 8 (i64 (len (l))), Y 9 (i64 k), Y 37 (.bool (((at' (l) (k)).kind) == (5)))] rfl ?_)
      refine CW.cond rfl (fun hb6 => ?_) (fun hb6 => ?_)
      ·try simp only [zb] at hb6
       have hbe := hbk.2.2 hb6
       refine CW.region ?_
       refine RL.u (.fldA (q := ⟨b4, 2, none⟩) (.t rfl) (fun w => by kernel_rfl)) rfl (RL.u (.loadBN (vs := (ndC ((at' (l) (k)).c) [])) hS7 extEq (i := 0) rfl (.t rfl) Tryz.isAgg31 Tryz.sizeOf31 rfl rfl) rfl ?_)
       refine RL.callE hS7 .none Tryz.call22 (.cons (.t rfl) .nil) (fun _ => (print_c ((at' (l) (k)).c) _ (hg.low hS7.low) (by omega) (by omega))) rfl (fun w44 hS45 => ?_)
       refine RL.a rfl rfl ?_
       refine RL.nil (CW.at [Y 3 (vo), Y 6 (str (print1 ((at' (l) (k)).c))), Y 7 (v), Y 8 (i64 (len (l))), Y 9 (i64 k)] rfl ?_)
       refine CW.region ?_
       refine RL.m rfl rfl (RL.m rfl rfl ?_)
       refine RL.buildSlice (n := 1) (sz := 1) (e := 9) (vs := [(0, (str (print1 ((at' (l) (k)).c))))]) (cs := [(str (print1 ((at' (l) (k)).c)))]) hS45 (.cons (.t rfl) .nil) rfl rfl (fun w => by kernel_rfl) rfl (fun v46 w47 M48 hS49 hle50 => ?_)
       replace hS49 : St w M w47 M48 [.own 9 1 (v46) (([print1 ((at' (l) (k)).c)] : List Str)).length ((([print1 ((at' (l) (k)).c)] : List Str)).flatMap strC), .box b4 (tkC (at' (l) (k)) []) 33, .own 9 1 (vo) (o).length ((o).flatMap strC)] := hS49
       replace hl := hl.mono hle50
       refine RL.append1 (f := strC) (l := o) (y := print1 ((at' (l) (k)).c)) hS49 (k := 2) rfl (.t rfl) (.t rfl) (hS49.sl (i := 0) rfl) Tryz.underlying60 Tryz.type9 rfl rfl rfl strC_one (by' := 16) rfl rfl (by first | omega | (simp only [len_app, len_cons, len_nil]; omega)) rfl (Hs' := fun v' => [.own 9 1 (v46) (([print1 ((at' (l) (k)).c)] : List Str)).length ((([print1 ((at' (l) (k)).c)] : List Str)).flatMap strC), .box b4 (tkC (at' (l) (k)) []) 33, .own 9 1 (v') (o ++ [print1 ((at' (l) (k)).c)]).length ((o ++ [print1 ((at' (l) (k)).c)]).flatMap strC)]) (fun _ => rfl) (fun v51 w52 M53 hS54 hle55 => ?_)
       replace hS54 : St w M w52 M53 [.box b4 (tkC (at' (l) (k)) []) 33, .own 9 1 (v51) (o ++ [print1 ((at' (l) (k)).c)]).length ((o ++ [print1 ((at' (l) (k)).c)]).flatMap strC)] := hS54.erase 0 rfl
       replace hl := hl.mono hle55
       refine RL.a rfl rfl ?_
       refine RL.nil (CW.at [Y 3 (v51), Y 7 (v), Y 8 (i64 (len (l))), Y 9 (i64 k)] rfl ?_)
       refine CW.region ?_
       refine RL.u (.add (.t rfl) .c (fun _ => by first | omega | (simp only [len_app, len_cons, len_nil]; omega))) rfl (RL.m rfl rfl ?_)
       replace hS54 : St w M w52 M53 [.own 9 1 (v51) (o ++ [print1 ((at' (l) (k)).c)]).length ((o ++ [print1 ((at' (l) (k)).c)]).flatMap strC)] := hS54.erase 0 rfl
       refine RL.nil fun a hs => Exists.intro ((k + 1, o ++ [print1 ((at' (l) (k)).c)], v51, M53)) ⟨hs.keep [3, 7, 8, 9], ?_, ?_⟩
       ·refine ⟨hS54, hl, ?_⟩
        exact ⟨by omega, by omega, by rw [textsP_step hk0 hb1 (by omega), ← hF]; unfold oneP; rw [if_neg (by first | assumption | omega | (simp_all; done) | grind), if_neg (by first | assumption | omega | (simp_all; done) | grind), if_pos (by first | assumption | omega | (simp_all; done) | grind)]; try rfl, by rw [len_app, len_cons, len_nil]; omega⟩
       ·show Int.toNat _ < Int.toNat _; omega
      ·try simp only [zb] at hb6
       refine CW.skip (CW.at [Y 3 (vo), Y 6 (str ((at' (l) (k)).s)), Y 7 (v), Y 8 (i64 (len (l))), Y 9 (i64 k)] rfl ?_)
       refine CW.region ?_
       refine RL.m rfl rfl (RL.m rfl rfl ?_)
       refine RL.buildSlice (n := 1) (sz := 1) (e := 9) (vs := [(0, (str ((at' (l) (k)).s)))]) (cs := [(str ((at' (l) (k)).s))]) hS7 (.cons (.t rfl) .nil) rfl rfl (fun w => by kernel_rfl) rfl (fun v56 w57 M58 hS59 hle60 => ?_)
       replace hS59 : St w M w57 M58 [.own 9 1 (v56) (([(at' (l) (k)).s] : List Str)).length ((([(at' (l) (k)).s] : List Str)).flatMap strC), .box b4 (tkC (at' (l) (k)) []) 33, .own 9 1 (vo) (o).length ((o).flatMap strC)] := hS59
       replace hl := hl.mono hle60
       refine RL.append1 (f := strC) (l := o) (y := (at' (l) (k)).s) hS59 (k := 2) rfl (.t rfl) (.t rfl) (hS59.sl (i := 0) rfl) Tryz.underlying60 Tryz.type9 rfl rfl rfl strC_one (by' := 16) rfl rfl (by first | omega | (simp only [len_app, len_cons, len_nil]; omega)) rfl (Hs' := fun v' => [.own 9 1 (v56) (([(at' (l) (k)).s] : List Str)).length ((([(at' (l) (k)).s] : List Str)).flatMap strC), .box b4 (tkC (at' (l) (k)) []) 33, .own 9 1 (v') (o ++ [(at' (l) (k)).s]).length ((o ++ [(at' (l) (k)).s]).flatMap strC)]) (fun _ => rfl) (fun v61 w62 M63 hS64 hle65 => ?_)
       replace hS64 : St w M w62 M63 [.box b4 (tkC (at' (l) (k)) []) 33, .own 9 1 (v61) (o ++ [(at' (l) (k)).s]).length ((o ++ [(at' (l) (k)).s]).flatMap strC)] := hS64.erase 0 rfl
       replace hl := hl.mono hle65
       refine RL.a rfl rfl ?_
       refine RL.nil (CW.at [Y 3 (v61), Y 7 (v), Y 8 (i64 (len (l))), Y 9 (i64 k)] rfl ?_)
       refine CW.region ?_
       refine RL.u (.add (.t rfl) .c (fun _ => by first | omega | (simp only [len_app, len_cons, len_nil]; omega))) rfl (RL.m rfl rfl ?_)
       replace hS64 : St w M w62 M63 [.own 9 1 (v61) (o ++ [(at' (l) (k)).s]).length ((o ++ [(at' (l) (k)).s]).flatMap strC)] := hS64.erase 0 rfl
       refine RL.nil fun a hs => Exists.intro ((k + 1, o ++ [(at' (l) (k)).s], v61, M63)) ⟨hs.keep [3, 7, 8, 9], ?_, ?_⟩
       ·refine ⟨hS64, hl, ?_⟩
        exact ⟨by omega, by omega, by rw [textsP_step hk0 hb1 (by omega), ← hF]; unfold oneP; rw [if_neg (by first | assumption | omega | (simp_all; done) | grind), if_neg (by first | assumption | omega | (simp_all; done) | grind), if_neg (by first | assumption | omega | (simp_all; done) | grind)]; try rfl, by rw [len_app, len_cons, len_nil]; omega⟩
       ·show Int.toNat _ < Int.toNat _; omega
  ·try simp only [zb] at hb1
   have ho : o = textsP l := by rw [hF, sub_all _ _ (by omega)]
   have hjl : len (Lib.join o [32]) ≤ 140737488355328 := by rw [ho]; unfold textP at htl; omega
   refine CW.exit (CW.at [Y 3 (vo)] rfl ?_)
   refine CW.sr ?_
   refine RL.m rfl rfl ?_
   refine RL.callE hS2 .none Tryz.call23 (.cons (.t rfl) (.cons .c .nil)) (fun _ => (join_c Ml (o) (vo) ([32]) _ hS2.sat (hS2.sl (i := 0) rfl) (by first | assumption | omega) (by first | assumption | omega))) rfl (fun w66 hS67 => ?_)
   refine RL.a rfl rfl ?_
   refine RL.nil (CW.at [Y 2 (str (Lib.join (o) ([32])))] rfl ?_)
   refine CW.ret (ret1 (P := Tryz.prog) (fn := Tryz.f13) (R := fun e w' => e = .returned (str (textP l)) ∧ Ext w w') rfl rfl ?_)
   exact ⟨by unfold textP; rw [ho], hS67.low⟩

end Go.Proofs.YthdialbnlnjgpaaGreatDoor
