/-

-/
import Derived.Test.YtjfaikgooldcbaaGreatDoorZc5
import Derived.Laws.BitsLemmas
import Derived.Test.YtjfaikgooldcbaaGreatDoorZc3
import Derived.Test.YtjfaikgooldcbaaGreatDoorProg
import Derived.Test.YtjfaikgooldcbaaGreatDoorZc22
import Derived.Test.YtjfaikgooldcbaaGreatDoorZc8
set_option linter.unusedVariables false
set_option linter.unusedSimpArgs false
set_option maxRecDepth 100000
namespace Go.Proofs.YtjfaikgooldcbaaGreatDoor
open Go.Eng

/- loupe/louperef01.decimal -/
theorem decimal_w (n : Int) (w : World) (ih : ∀ (k : Int) (w : World), n < k → k < 0 → Calls Tryz.prog 121 [i64 k].toArray w fun e w' => e = .returned (str (Lib.itoa k)) ∧ Ext w w') (h : -1000000 ≤ n ∧ n ≤ 1000000) :
  Calls Tryz.prog 121 [(i64 n)].toArray w fun e w' => e = .returned (str (Lib.itoa n)) ∧ Ext w w' := by
 refine CW.enter1 Tryz.func121 rfl Tryz.ntmps121 (Nat.le_of_ble_eq_true rfl) fun Q hE => ?_
 have hS : St w nM w nM [] := St.start ⟨fun _ _ _ h => by cases h⟩
 refine CW.weaken [0] (L' := [Y 0 (i64 n)]) ?_ rfl
 refine CW.sr (RL.u (.assign .c) rfl (RL.nil (CW.id (CW.seq ?_))))
 refine CW.sr (RL.m rfl rfl (RL.u (.gtr (.t rfl) .c) rfl (RL.m rfl rfl (RL.v (.pos rfl rfl) (.move (.t rfl)) rfl (RL.v (.pos rfl rfl) (.lss (.g rfl (fun h => h)) .c) rfl (RL.u (.and (.t rfl) (.g rfl (fun h => h))) rfl (RL.nil (CW.id ?_))))))))
 refine CW.cond rfl ?_ ?_ <;> intro hb1 <;> try simp only [zb] at hb1
 ·refine CW.sr (RL.m rfl rfl (RL.u (.sub .c (.t rfl) (fun _ => by omega)) rfl (RL.u (.cvtK (r := 48 - n) (.t rfl) Tryz.underlying3 Tryz.underlying5 (fun _ => by exact Eng.wrap_u8 (by omega))) rfl ?_)))
  refine RL.buildSlice (n := 1) (sz := 1) (e := 5) (vs := [(0, (.int .u8 (48 - n)))]) (cs := [(.int .u8 (48 - n))]) hS (.cons (.t rfl) .nil) rfl rfl (fun w => by kernel_rfl) rfl (fun v1 w2 M3 hS4 hle5 => ?_)
  replace hS4 : St w nM w2 M3 [.own 5 1 v1 (([48 - n] : List Int)).length ((([48 - n] : List Int)).flatMap u8I)] := hS4
  refine RL.u (.b2s hS4 extEq (hS4.sl (i := 0) rfl) (.t rfl) Tryz.underlying63 Tryz.underlying5 Tryz.underlying9) rfl (RL.u (.sadd .c (.t rfl) (fun _ => by first | omega | (have hz6 := itoa_len (-(-n / 10)); simp only [toStr, List.map_cons, List.map_nil, len_cons, len_nil]; omega))) rfl (RL.a rfl rfl (RL.nil (CW.id ?_))))
  refine CW.ret (hE.r1 rfl rfl ?_)
  exact ⟨by rw [itoa_neg_one (by omega) (by omega)], hS4.low⟩
 ·refine CW.skip (CW.id (CW.seq (CW.sr (RL.m rfl rfl (RL.u (.lss (.t rfl) .c) rfl (RL.nil (CW.id ?_)))))))
  refine CW.cond rfl ?_ ?_ <;> intro hb2 <;> try simp only [zb] at hb2
  ·refine CW.seq (CW.weaken [0] (L' := [Y 0 (i64 n)]) ?_ rfl)
   refine CW.regionF [.is true (i64 n), .is true (i64 (-((-(n)) / 10))), .is true (str (Lib.itoa (-((-(n)) / 10)))), .is true (i64 n), .is true (i64 (-((-(n)) % 10))), .is true (i64 (48 - (-((-(n)) % 10)))), .is true (.int .u8 (48 - (-((-(n)) % 10)))), .sl 1 (([48 - (-((-(n)) % 10))] : List Int)).length ((([48 - (-((-(n)) % 10))] : List Int)).flatMap u8I), .is true (str (toStr (([48 - (-((-(n)) % 10))] : List Int)))), .is true (str ((Lib.itoa (-((-(n)) / 10))) ++ (toStr (([48 - (-((-(n)) % 10))] : List Int))))), .is true (str ((Lib.itoa (-((-(n)) / 10))) ++ (toStr (([48 - (-((-(n)) % 10))] : List Int)))))] hS tryz_mixed [0] rfl (by decide +kernel) (.cons ?_ (.cons ?_ (.cons ?_ (.cons ?_ (.cons ?_ (.cons ?_ (.cons ?_ (.cons ?_ (.cons ?_ (.cons ?_ (.cons ?_ (.nil)))))))))))) ?_
   ·intro LL w6 M7 hle9 hS8 hK hD
    refine RL.u (.move (.t (hK _ _ rfl))) rfl ?_
    exact RL.nil (RA.next fun a hs => ⟨_, _, Mem.le.refl _, hS8, hs, _, _, rfl, rfl, rfl⟩)
   ·intro LL w10 M11 hle13 hS12 hK hD
    obtain ⟨g18, v18, hl18, rfl, rfl⟩ := hD 0 (by decide +kernel)
    refine RL.u (.quoK (r := -((-(n)) / 10)) (.t hl18) .c (fun _ => by omega) (fun _ => by rw [tdiv_neg' (by omega)]; exact Eng.wrap_i64 (by omega))) rfl ?_
    exact RL.nil (RA.next fun a hs => ⟨_, _, Mem.le.refl _, hS12, hs, _, _, rfl, rfl, rfl⟩)
   ·intro LL w14 M15 hle17 hS16 hK hD
    obtain ⟨g19, v19, hl19, rfl, rfl⟩ := hD 1 (by decide +kernel)
    refine RL.callE hS16 .none Tryz.call121 (.cons (.t hl19) .nil) (fun _ => (ih (-((-(n)) / 10)) _ (by omega) (by omega))) rfl (fun w18 hS19 => ?_)
    exact RL.nil (RA.next fun a hs => ⟨_, _, Mem.le.refl _, hS19, hs, _, _, rfl, rfl, rfl⟩)
   ·intro LL w20 M21 hle23 hS22 hK hD
    refine RL.u (.move (.t (hK _ _ rfl))) rfl ?_
    exact RL.nil (RA.next fun a hs => ⟨_, _, Mem.le.refl _, hS22, hs, _, _, rfl, rfl, rfl⟩)
   ·intro LL w24 M25 hle27 hS26 hK hD
    obtain ⟨g21, v21, hl21, rfl, rfl⟩ := hD 3 (by decide +kernel)
    refine RL.u (.remK (r := -((-(n)) % 10)) (.t hl21) .c (fun _ => by omega) (fun _ => by exact tmod_neg' (by omega))) rfl ?_
    exact RL.nil (RA.next fun a hs => ⟨_, _, Mem.le.refl _, hS26, hs, _, _, rfl, rfl, rfl⟩)
   ·intro LL w28 M29 hle31 hS30 hK hD
    obtain ⟨g22, v22, hl22, rfl, rfl⟩ := hD 4 (by decide +kernel)
    refine RL.u (.sub .c (.t hl22) (fun _ => by omega)) rfl ?_
    exact RL.nil (RA.next fun a hs => ⟨_, _, Mem.le.refl _, hS30, hs, _, _, rfl, rfl, rfl⟩)
   ·intro LL w32 M33 hle35 hS34 hK hD
    obtain ⟨g23, v23, hl23, rfl, rfl⟩ := hD 5 (by decide +kernel)
    refine RL.u (.cvtK (r := 48 - (-((-(n)) % 10))) (.t hl23) Tryz.underlying3 Tryz.underlying5 (fun _ => by exact Eng.wrap_u8 (by omega))) rfl ?_
    exact RL.nil (RA.next fun a hs => ⟨_, _, Mem.le.refl _, hS34, hs, _, _, rfl, rfl, rfl⟩)
   ·intro LL w36 M37 hle39 hS38 hK hD
    obtain ⟨g24, v24, hl24, rfl, rfl⟩ := hD 6 (by decide +kernel)
    refine RL.buildSlice (n := 1) (sz := 1) (e := 5) (vs := [(0, (.int .u8 (48 - (-((-(n)) % 10)))))]) (cs := [(.int .u8 (48 - (-((-(n)) % 10))))]) hS38 (.cons (.t hl24) .nil) rfl rfl (fun w => by kernel_rfl) rfl (fun v40 w41 M42 hS43 hle44 => ?_)
    have hfact := (hS43.sl (i := 0) rfl)
    replace hS43 := hS43.erase 0 rfl
    exact RL.nil (RA.next fun a hs => ⟨_, _, hle44, hS43, hs, _, _, rfl, rfl, hfact⟩)
   ·intro LL w45 M46 hle48 hS47 hK hD
    obtain ⟨g25, v25, hl25, rfl, hsl25⟩ := hD 7 (by decide +kernel)
    refine RL.u (.b2s hS47 extEq hsl25 (.t hl25) Tryz.underlying63 Tryz.underlying5 Tryz.underlying9) rfl ?_
    exact RL.nil (RA.next fun a hs => ⟨_, _, Mem.le.refl _, hS47, hs, _, _, rfl, rfl, rfl⟩)
   ·intro LL w49 M50 hle52 hS51 hK hD
    obtain ⟨g20, v20, hl20, rfl, rfl⟩ := hD 2 (by decide +kernel)
    obtain ⟨g26, v26, hl26, rfl, rfl⟩ := hD 8 (by decide +kernel)
    refine RL.u (.sadd (.t hl20) (.t hl26) (fun _ => by first | omega | (have hz6 := itoa_len (-(-n / 10)); simp only [toStr, List.map_cons, List.map_nil, len_cons, len_nil]; omega))) rfl ?_
    exact RL.nil (RA.next fun a hs => ⟨_, _, Mem.le.refl _, hS51, hs, _, _, rfl, rfl, rfl⟩)
   ·intro LL w53 M54 hle56 hS55 hK hD
    obtain ⟨g27, v27, hl27, rfl, rfl⟩ := hD 9 (by decide +kernel)
    obtain ⟨g27, v27, hl27, rfl, rfl⟩ := hD 9 (by decide +kernel)
    refine RL.u (.assign (.t hl27)) rfl ?_
    exact RL.nil (RA.next fun a hs => ⟨_, _, Mem.le.refl _, hS55, hs, _, _, rfl, rfl, rfl⟩)
   intro w57 M58 LL hle60 hS59 hK hD
   obtain ⟨g2, v2, hl2, rfl, rfl⟩ := hD 10 (by decide)
   refine slots_sub (E := [Y 0 (i64 n), Y 2 (str ((Lib.itoa (-((-(n)) / 10))) ++ (toStr (([48 - (-((-(n)) % 10))] : List Int)))))]) (.cons (hK _ _ rfl) (.cons hl2 .nil)) ?_
   refine (CW.at [Y 2 (str ((Lib.itoa (-((-(n)) / 10))) ++ (toStr (([48 - (-((-(n)) % 10))] : List Int)))))] rfl ?_)
   refine CW.ret (hE.r1 rfl rfl ?_)
   exact ⟨by rw [itoa_neg_step (k := n) (by omega), show (48 - -(-n % 10) : Int) = 48 + -n % 10 from by omega], hS59.low⟩
  ·refine CW.skip (CW.id (CW.sr (RL.m rfl rfl (RL.u (.rem (.t rfl) .c (fun _ => by omega)) rfl (RL.u (.add .c (.t rfl) (fun _ => by omega)) rfl (RL.u (.cvtK (r := 48 + (n % 10)) (.t rfl) Tryz.underlying3 Tryz.underlying5 (fun _ => by exact Eng.wrap_u8 (by omega))) rfl ?_))))))
   refine RL.buildSlice (n := 1) (sz := 1) (e := 5) (vs := [(0, (.int .u8 (48 + (n % 10))))]) (cs := [(.int .u8 (48 + (n % 10)))]) hS (.cons (.t rfl) .nil) rfl rfl (fun w => by kernel_rfl) rfl (fun v61 w62 M63 hS64 hle65 => ?_)
   replace hS64 : St w nM w62 M63 [.own 5 1 v61 (([48 + (n % 10)] : List Int)).length ((([48 + (n % 10)] : List Int)).flatMap u8I)] := hS64
   refine RL.u (.b2s hS64 extEq (hS64.sl (i := 0) rfl) (.t rfl) Tryz.underlying63 Tryz.underlying5 Tryz.underlying9) rfl (RL.a rfl rfl (RL.nil (CW.id ?_)))
   refine CW.seq (CW.block ?_)
   refine CW.loop (σ := Int × Str × Mem) (fun (k, o, Ml) => [Y 0 (i64 k), Y 3 (str o)]) (fun (k, o, Ml) wl => St w nM wl Ml [.own 5 1 v61 (([48 + (n % 10)] : List Int)).length ((([48 + (n % 10)] : List Int)).flatMap u8I)] ∧ 0 ≤ k ∧ k ≤ 1000000 ∧ len o + k ≤ 1000001 ∧ Lib.itoa n = (if 10 ≤ k then Lib.itoa (k / 10) else []) ++ o) (fun (k, o, Ml) => k.toNat) ((n, toStr [48 + n % 10], M63)) [0, 3] rfl ?_ ?_
   ·refine ⟨hS64, ?_⟩; exact ⟨by omega, by omega, by unfold toStr; simp only [List.map_cons, List.map_nil, len_cons, len_nil]; omega, itoa_step (by omega)⟩
   ·rintro ⟨k, o, Ml⟩ wl ⟨hS66, hk, hk2, hlo, hF⟩
    refine CW.seq (CW.sr (RL.m rfl rfl (RL.u (.geq (.t rfl) .c) rfl (RL.nil (CW.id ?_)))))
    refine CW.cond rfl ?_ ?_ <;> intro hb3 <;> try simp only [zb] at hb3
    ·refine CW.skip (CW.id (CW.block (CW.sr (RL.m rfl rfl (RL.u (.quo (.t rfl) .c (fun _ => by omega)) rfl (RL.a rfl rfl (RL.nil (CW.id ?_))))))))
     refine CW.region (RL.m rfl rfl (RL.u (.rem (.t rfl) .c (fun _ => by omega)) rfl (RL.u (.add .c (.t rfl) (fun _ => by omega)) rfl (RL.u (.cvtK (r := 48 + ((k / 10) % 10)) (.t rfl) Tryz.underlying3 Tryz.underlying5 (fun _ => by exact Eng.wrap_u8 (by omega))) rfl ?_))))
     refine RL.buildSlice (n := 1) (sz := 1) (e := 5) (vs := [(0, (.int .u8 (48 + ((k / 10) % 10))))]) (cs := [(.int .u8 (48 + ((k / 10) % 10)))]) hS66 (.cons (.t rfl) .nil) rfl rfl (fun w => by kernel_rfl) rfl (fun v67 w68 M69 hS70 hle71 => ?_)
     replace hS70 : St w nM w68 M69 [.own 5 1 v67 (([48 + ((k / 10) % 10)] : List Int)).length ((([48 + ((k / 10) % 10)] : List Int)).flatMap u8I), .own 5 1 v61 (([48 + (n % 10)] : List Int)).length ((([48 + (n % 10)] : List Int)).flatMap u8I)] := hS70
     refine RL.u (.b2s hS70 extEq (hS70.sl (i := 0) rfl) (.t rfl) Tryz.underlying63 Tryz.underlying5 Tryz.underlying9) rfl (RL.m rfl rfl (RL.u (.sadd (.t rfl) (.t rfl) (fun _ => by first | omega | (have hz6 := itoa_len (-(-n / 10)); simp only [toStr, List.map_cons, List.map_nil, len_cons, len_nil]; omega))) rfl (RL.a rfl rfl ?_)))
     replace hS70 := hS70.erase 0 rfl
     refine RL.nil fun a hs => Exists.intro ((k / 10, toStr [48 + k / 10 % 10] ++ o, M69)) ⟨hs.keep [0, 3], ?_, ?_⟩
     ·refine ⟨hS70, ?_⟩
      refine ⟨by omega, by omega, by unfold toStr; simp only [List.map_cons, List.map_nil, len_app, len_cons, len_nil]; omega, ?_⟩
      rw [hF, if_pos (by omega), itoa_step (k := k / 10) (by omega), List.append_assoc]
     ·show Int.toNat _ < Int.toNat _; omega
    ·refine CW.exit (CW.at [Y 3 (str o)] rfl ?_)
     refine CW.sr (RL.m rfl rfl (RL.a rfl rfl (RL.nil (CW.id (CW.ret (hE.r1 rfl rfl ?_))))))
     exact ⟨by rw [hF, if_neg (by omega)]; rfl, hS66.low⟩

theorem decimal_c (n : Int) (w : World) (h : -1000000 ≤ n ∧ n ≤ 1000000) : Calls Tryz.prog 121 [i64 n].toArray w fun e w' => e = .returned (str (Lib.itoa n)) ∧ Ext w w' := by
  have key : ∀ (k : Nat) (n : Int) (w : World), (-n).toNat ≤ k → -1000000 ≤ n ∧ n ≤ 1000000 → Calls Tryz.prog 121 [i64 n].toArray w fun e w' => e = .returned (str (Lib.itoa n)) ∧ Ext w w' := by
    intro k
    induction k with
    | zero => intro n w hk h; exact decimal_w n w (fun k w h1 h2 => by omega) h
    | succ k ih => intro n w hk h; exact decimal_w n w (fun j w h1 h2 => ih j w (by omega) (by omega)) h
  exact key _ n w (Nat.le_refl _) h
/- loupe/louperef01.Print -/
theorem print3_c (n : Nd) (w : World) (hb : len n.s ≤ 1099511627776) (he : -1000000 ≤ n.e ∧ n.e ≤ 1000000) :
  Calls Tryz.prog 87 [(ndV n)].toArray w fun e w' => e = .returned (str (print1 n)) ∧ Ext w w' := by
 refine CW.enter1 Tryz.func87 rfl Tryz.ntmps87 (Nat.le_of_ble_eq_true rfl) fun Q hE => ?_
 have := len_nonneg n.s
 have hz := zeros_len' (1 - n.e - len n.s)
 have hz2 := zeros_len' n.e
 have hz5 := itoa_len n.e
 have hS : St w nM w nM [] := St.start ⟨fun _ _ _ h => by cases h⟩
 refine CW.weaken [0] (L' := [Y 0 (ndV n)]) ?_ rfl
 refine CW.sr ?_
 refine RL.box (v := (ndV n)) hS (.t rfl) rfl (fun w1 b2 hS3 => ?_)
 refine RL.u (.assign .c) rfl (RL.nil (CW.id ?_))
 refine CW.sr (RL.u (.assign .c) rfl (RL.nil (CW.id (CW.seq ?_))))
 refine CW.sr (RL.u (.fldA (q := ⟨b2, 4, none⟩) (.t rfl) (fun w => by kernel_rfl)) rfl (RL.u (.loadB1 (v := (.bool n.neg)) hS3 extEq (i := 0) rfl (.t rfl) Tryz.isAgg4 rfl) rfl (RL.nil (CW.id ?_))))
 refine CW.cond rfl ?_ ?_ <;> intro hb1 <;> try simp only [zb] at hb1
 ·refine CW.region (RL.u (.assign .c) rfl (RL.nil (CW.id (CW.sr ?_))))
  refine RL.u (.fldA (q := ⟨b2, 3, none⟩) (.t rfl) (fun w => by kernel_rfl)) rfl (RL.u (.loadB1 (v := (str n.s)) hS3 extEq (i := 0) rfl (.t rfl) Tryz.isAgg9 rfl) rfl (RL.a rfl rfl (RL.nil (CW.id ?_))))
  refine CW.seq (CW.sr (RL.m rfl rfl (RL.u (.seql (.t rfl) .c) rfl (RL.nil (CW.id ?_)))))
  refine CW.cond rfl ?_ ?_ <;> intro hb2 <;> try simp only [zb] at hb2
  ·refine CW.sr (RL.u (.assign .c) rfl (RL.nil (CW.id (CW.ret (hE.r1 rfl rfl ?_)))))
   clear hE
   have hq : print1 n = [48] := by
    unfold print1
    (try dsimp only)
    (repeat' split)
    all_goals first | rfl | (exfalso; omega) | (exfalso; simp_all; done) | (simp_all; done) | (exfalso; simp_all; omega)
   rw [hq]; exact ⟨rfl, hS3.low⟩
  ·refine CW.skip (CW.id (CW.seq (CW.sr (RL.u (.fldA (q := ⟨b2, 5, none⟩) (.t rfl) (fun w => by kernel_rfl)) rfl (RL.u (.loadB1 (v := (i64 n.e)) hS3 extEq (i := 0) rfl (.t rfl) Tryz.isAgg3 rfl) rfl (RL.u (.geq (.t rfl) .c) rfl (RL.m rfl rfl (RL.v (.pos rfl rfl) (.move (.t rfl)) rfl (RL.v (.pos rfl rfl) (.lenS (.g rfl (fun h => h)) Tryz.underlying9) rfl ?_)))))))))
   refine RL.v (.pos rfl rfl) (.fldA (q := ⟨b2, 5, none⟩) (.t rfl) (fun w => by kernel_rfl)) rfl (RL.v (.pos rfl rfl) (.loadB1 (v := (i64 n.e)) hS3 extEq (i := 0) rfl (.g rfl (fun h => h)) Tryz.isAgg3 rfl) rfl (RL.v (.pos rfl rfl) (.add (.g rfl (fun h => h)) (.g rfl (fun h => h)) (fun hW => by simp only [zb] at hW; first | omega | (simp only [len_app, len_cons, len_nil] at *; omega))) rfl (RL.v (.pos rfl rfl) (.leq (.g rfl (fun h => h)) .c) rfl (RL.u (.and (.t rfl) (.g rfl (fun h => h))) rfl (RL.nil (CW.id ?_))))))
   refine CW.cond rfl ?_ ?_ <;> intro hb3 <;> try simp only [zb] at hb3
   ·refine CW.seq (CW.sr (RL.u (.assign .c) rfl (RL.nil (CW.id ?_))))
    refine CW.block ?_
    refine CW.loop (σ := Int × Str) (fun (k, o) => [Y 1 (.pointer (some ⟨b2, 0, none⟩)), Y 3 (str [45]), Y 4 (str o), Y 5 (i64 k)]) (fun (k, o) wl => St w nM wl nM [.box b2 (ndC n []) 38] ∧ 0 ≤ k ∧ k ≤ n.e ∧ o = n.s ++ zeros k ∧ len o = len n.s + k) (fun (k, o) => (n.e - k).toNat) ((0, n.s)) [1, 3, 4, 5] rfl ?_ ?_
    ·refine ⟨hS3, ?_⟩; exact ⟨by omega, by omega, by rw [zeros_neg (by omega)]; simp, by omega⟩
    ·rintro ⟨k, o⟩ wl ⟨hS4, h0, h1, hF, hl⟩
     refine CW.seq (CW.sr (RL.m rfl rfl (RL.u (.fldA (q := ⟨b2, 5, none⟩) (.t rfl) (fun w => by kernel_rfl)) rfl (RL.u (.loadB1 (v := (i64 n.e)) hS4 extEq (i := 0) rfl (.t rfl) Tryz.isAgg3 rfl) rfl (RL.u (.lss (.t rfl) (.t rfl)) rfl (RL.nil (CW.id ?_)))))))
     refine CW.cond rfl ?_ ?_ <;> intro hb4 <;> try simp only [zb] at hb4
     ·refine CW.skip (CW.id (CW.seq (CW.block ?_)))
      refine CW.region (RL.m rfl rfl (RL.u (.sadd (.t rfl) .c (fun _ => by first | omega | (simp only [len_app, len_cons, len_nil] at *; omega))) rfl (RL.a rfl rfl (RL.nil (CW.id ?_)))))
      refine CW.region (RL.m rfl rfl (RL.u (.add (.t rfl) .c (fun _ => by omega)) rfl (RL.a rfl rfl ?_)))
      refine RL.nil fun a hs => Exists.intro ((k + 1, o ++ [48])) ⟨hs.keep [1, 3, 4, 5], ?_, ?_⟩
      ·refine ⟨hS4, ?_⟩
       exact ⟨by omega, by omega, by rw [hF, zeros_snoc h0]; simp, by rw [len_app, len_cons, len_nil]; omega⟩
      ·show Int.toNat _ < Int.toNat _; omega
     ·refine CW.exit (CW.at [Y 3 (str [45]), Y 4 (str o)] rfl ?_)
      refine CW.sr (RL.m rfl rfl (RL.m rfl rfl (RL.u (.sadd (.t rfl) (.t rfl) (fun _ => by first | omega | (simp only [len_app, len_cons, len_nil] at *; omega))) rfl (RL.a rfl rfl (RL.nil (CW.id (CW.ret (hE.r1 rfl rfl ?_))))))))
      clear hE
      have hq : print1 n = [45] ++ o := by
       have ho : o = n.s ++ zeros n.e := by rw [hF, show k = n.e from by omega]
       rw [ho]
       unfold print1
       (try dsimp only)
       (repeat' split)
       all_goals first | rfl | (exfalso; simp_all; done) | (simp_all; done) | (exfalso; simp_all; omega)
      rw [hq]; exact ⟨rfl, hS4.low⟩
   ·refine CW.skip (CW.id (CW.seq (CW.sr (RL.u (.fldA (q := ⟨b2, 5, none⟩) (.t rfl) (fun w => by kernel_rfl)) rfl (RL.u (.loadB1 (v := (i64 n.e)) hS3 extEq (i := 0) rfl (.t rfl) Tryz.isAgg3 rfl) rfl (RL.u (.lss (.t rfl) .c) rfl (RL.m rfl rfl (RL.v (.pos rfl rfl) (.fldA (q := ⟨b2, 5, none⟩) (.t rfl) (fun w => by kernel_rfl)) rfl (RL.v (.pos rfl rfl) (.loadB1 (v := (i64 n.e)) hS3 extEq (i := 0) rfl (.g rfl (fun h => h)) Tryz.isAgg3 rfl) rfl ?_)))))))))
    refine RL.v (.pos rfl rfl) (.geq (.g rfl (fun h => h)) .c) rfl (RL.u (.and (.t rfl) (.g rfl (fun h => h))) rfl (RL.nil (CW.id ?_)))
    refine CW.cond rfl ?_ ?_ <;> intro hb5 <;> try simp only [zb] at hb5
    ·refine CW.seq (CW.block ?_)
     refine CW.loop (σ := Str) (fun o => [Y 1 (.pointer (some ⟨b2, 0, none⟩)), Y 3 (str [45]), Y 4 (str o)]) (fun o wl => St w nM wl nM [.box b2 (ndC n []) 38] ∧ o = zeros (len o - len n.s) ++ n.s ∧ len n.s ≤ len o ∧ (len o ≤ len n.s ∨ len o ≤ 1 - n.e)) (fun o => (1 - n.e - len o).toNat) n.s [1, 3, 4] rfl ?_ ?_
     ·refine ⟨hS3, ?_⟩; exact ⟨by rw [zeros_neg (by omega)]; simp, by omega, by omega⟩
     ·rintro o wl ⟨hS5, hF, hl, hl2⟩
      have hz3 := sub_bd o 0 (len o + n.e)
      have hz4 := from_bd o (len o + n.e)
      refine CW.seq (CW.sr (RL.m rfl rfl (RL.u (.lenS (.t rfl) Tryz.underlying9) rfl (RL.u (.fldA (q := ⟨b2, 5, none⟩) (.t rfl) (fun w => by kernel_rfl)) rfl (RL.u (.loadB1 (v := (i64 n.e)) hS5 extEq (i := 0) rfl (.t rfl) Tryz.isAgg3 rfl) rfl (RL.u (.sub .c (.t rfl) (fun _ => by omega)) rfl (RL.u (.lss (.t rfl) (.t rfl)) rfl (RL.nil (CW.id ?_)))))))))
      refine CW.cond rfl ?_ ?_ <;> intro hb6 <;> try simp only [zb] at hb6
      ·refine CW.skip (CW.id (CW.block ?_))
       refine CW.region (RL.m rfl rfl (RL.u (.sadd .c (.t rfl) (fun _ => by first | omega | (simp only [len_app, len_cons, len_nil] at *; omega))) rfl (RL.a rfl rfl ?_)))
       refine RL.nil fun a hs => Exists.intro ([48] ++ o) ⟨hs.keep [1, 3, 4], ?_, ?_⟩
       ·refine ⟨hS5, ?_⟩
        exact ⟨by rw [len_app, len_cons, len_nil, show 0 + 1 + len o - len n.s = len o - len n.s + 1 from by omega, zeros_succ (by omega)]; exact congrArg (48 :: ·) hF, by rw [len_app, len_cons, len_nil]; omega, by rw [len_app, len_cons, len_nil]; omega⟩
       ·show Int.toNat _ < Int.toNat _; rw [len_app, len_cons, len_nil]; omega
      ·refine CW.exit (CW.at [Y 1 (.pointer (some ⟨b2, 0, none⟩)), Y 3 (str [45]), Y 4 (str o)] rfl ?_)
       refine CW.seq ?_
       refine CW.regionD hS5 tryz_mixed (by decide +kernel) ?_
       refine RQ.v .none (.move (.t rfl)) rfl ?_
       refine RQ.v .none (.move (.t rfl)) rfl ?_
       refine RQ.v .none (.move (.t rfl)) rfl ?_
       refine RQ.v .none (.lenS (.t rfl) Tryz.underlying9) rfl ?_
       refine RQ.v .none (.fldA (q := ⟨b2, 5, none⟩) (.t rfl) (fun w => by kernel_rfl)) rfl ?_
       refine RQ.v .none (.loadB1 (v := (i64 n.e)) hS5 (fun _ h => h) (i := 0) rfl (.t rfl) Tryz.isAgg3 rfl) rfl ?_
       refine RQ.v .none (.add (.t rfl) (.t rfl) (fun _ => by omega)) rfl ?_
       refine RQ.v .none (.slSh (.t rfl) (.t rfl) Tryz.underlying9 (fun _ => by omega)) rfl ?_
       refine RQ.v .none (.sadd (.t rfl) (.t rfl) (fun _ => by first | omega | (simp only [len_app, len_cons, len_nil] at *; omega))) rfl ?_
       refine RQ.v .none (.sadd (.t rfl) .c (fun _ => by first | omega | (simp only [len_app, len_cons, len_nil] at *; omega))) rfl ?_
       refine RQ.v .none (.move (.t rfl)) rfl ?_
       refine RQ.v .none (.move (.t rfl)) rfl ?_
       refine RQ.v .none (.lenS (.t rfl) Tryz.underlying9) rfl ?_
       refine RQ.v .none (.fldA (q := ⟨b2, 5, none⟩) (.t rfl) (fun w => by kernel_rfl)) rfl ?_
       refine RQ.v .none (.loadB1 (v := (i64 n.e)) hS5 (fun _ h => h) (i := 0) rfl (.t rfl) Tryz.isAgg3 rfl) rfl ?_
       refine RQ.v .none (.add (.t rfl) (.t rfl) (fun _ => by omega)) rfl ?_
       refine RQ.v .none (.slSl (.t rfl) (.t rfl) Tryz.underlying9 (fun _ => by omega)) rfl ?_
       refine RQ.v .none (.sadd (.t rfl) (.t rfl) (fun _ => by first | omega | (simp only [len_app, len_cons, len_nil] at *; omega))) rfl ?_
       refine RQ.v .none (.assign (.t rfl)) rfl ?_
       refine RQ.nil (fun a hs w6 hS7 => CW.at [Y 2 (str ((([45] ++ (Eng.sub o 0 ((len o) + n.e))) ++ [46]) ++ (Eng.from' o ((len o) + n.e))))] rfl ?_ a hs)
       refine CW.ret (hE.r1 rfl rfl ?_)
       have hq : print1 n = (([45] ++ (Eng.sub o 0 ((len o) + n.e))) ++ [46]) ++ (Eng.from' o ((len o) + n.e)) := by
        have ho : o = zeros (1 - n.e - len n.s) ++ n.s := by
         rcases hl2 with h | h
         ·rw [zeros_neg (by omega)] at hF; rw [zeros_neg (by omega)]; exact hF
         ·rw [show len o - len n.s = 1 - n.e - len n.s from by omega] at hF; exact hF
        rw [ho]
        have c1 : (n.s == []) = false := by simpa using hb2
        have c2 : (decide (0 ≤ n.e) && decide (len n.s + n.e ≤ 20)) = false := by rw [Bool.and_eq_false_iff, decide_eq_false_iff_not]; left; omega
        have c3 : (decide (n.e < 0) && decide (-20 ≤ n.e)) = true := by rw [Bool.and_eq_true, decide_eq_true_eq, decide_eq_true_eq]; omega
        simp only [print1, c1, c2, c3, hb1, if_true, if_false, Bool.false_eq_true]
       rw [hq]; exact ⟨rfl, hS7.low⟩
    ·refine CW.skip (CW.id (CW.sr (RL.m rfl rfl (RL.m rfl rfl (RL.u (.sadd (.t rfl) (.t rfl) (fun _ => by first | omega | (simp only [len_app, len_cons, len_nil] at *; omega))) rfl (RL.u (.sadd (.t rfl) .c (fun _ => by first | omega | (simp only [len_app, len_cons, len_nil] at *; omega))) rfl (RL.u (.fldA (q := ⟨b2, 5, none⟩) (.t rfl) (fun w => by kernel_rfl)) rfl (RL.u (.loadB1 (v := (i64 n.e)) hS3 extEq (i := 0) rfl (.t rfl) Tryz.isAgg3 rfl) rfl ?_))))))))
     refine RL.callE hS3 .none Tryz.call121 (.cons (.t rfl) .nil) (fun _ => (decimal_c n.e _ (by omega))) rfl (fun w8 hS9 => ?_)
     refine RL.u (.sadd (.t rfl) (.t rfl) (fun _ => by first | omega | (simp only [len_app, len_cons, len_nil] at *; omega))) rfl (RL.a rfl rfl ?_)
     refine RL.nil (CW.at [Y 2 (str ((([45] ++ n.s) ++ [101]) ++ (Lib.itoa n.e)))] rfl (CW.ret (hE.r1 rfl rfl ?_)))
     clear hE
     have hq : print1 n = (([45] ++ n.s) ++ [101]) ++ (Lib.itoa n.e) := by
      unfold print1
      (try dsimp only)
      (repeat' split)
      all_goals first | rfl | (exfalso; omega) | (exfalso; simp_all; done) | (simp_all; done) | (exfalso; simp_all; omega)
     rw [hq]; exact ⟨rfl, hS9.low⟩
 ·refine CW.skip (CW.id (CW.sr (RL.u (.fldA (q := ⟨b2, 3, none⟩) (.t rfl) (fun w => by kernel_rfl)) rfl (RL.u (.loadB1 (v := (str n.s)) hS3 extEq (i := 0) rfl (.t rfl) Tryz.isAgg9 rfl) rfl (RL.a rfl rfl (RL.nil (CW.id ?_)))))))
  refine CW.seq (CW.sr (RL.m rfl rfl (RL.u (.seql (.t rfl) .c) rfl (RL.nil (CW.id ?_)))))
  refine CW.cond rfl ?_ ?_ <;> intro hb7 <;> try simp only [zb] at hb7
  ·refine CW.sr (RL.u (.assign .c) rfl (RL.nil (CW.id (CW.ret (hE.r1 rfl rfl ?_)))))
   clear hE
   have hq : print1 n = [48] := by
    unfold print1
    (try dsimp only)
    (repeat' split)
    all_goals first | rfl | (exfalso; omega) | (exfalso; simp_all; done) | (simp_all; done) | (exfalso; simp_all; omega)
   rw [hq]; exact ⟨rfl, hS3.low⟩
  ·refine CW.skip (CW.id (CW.seq (CW.sr (RL.u (.fldA (q := ⟨b2, 5, none⟩) (.t rfl) (fun w => by kernel_rfl)) rfl (RL.u (.loadB1 (v := (i64 n.e)) hS3 extEq (i := 0) rfl (.t rfl) Tryz.isAgg3 rfl) rfl (RL.u (.geq (.t rfl) .c) rfl (RL.m rfl rfl (RL.v (.pos rfl rfl) (.move (.t rfl)) rfl (RL.v (.pos rfl rfl) (.lenS (.g rfl (fun h => h)) Tryz.underlying9) rfl ?_)))))))))
   refine RL.v (.pos rfl rfl) (.fldA (q := ⟨b2, 5, none⟩) (.t rfl) (fun w => by kernel_rfl)) rfl (RL.v (.pos rfl rfl) (.loadB1 (v := (i64 n.e)) hS3 extEq (i := 0) rfl (.g rfl (fun h => h)) Tryz.isAgg3 rfl) rfl (RL.v (.pos rfl rfl) (.add (.g rfl (fun h => h)) (.g rfl (fun h => h)) (fun hW => by simp only [zb] at hW; first | omega | (simp only [len_app, len_cons, len_nil] at *; omega))) rfl (RL.v (.pos rfl rfl) (.leq (.g rfl (fun h => h)) .c) rfl (RL.u (.and (.t rfl) (.g rfl (fun h => h))) rfl (RL.nil (CW.id ?_))))))
   refine CW.cond rfl ?_ ?_ <;> intro hb8 <;> try simp only [zb] at hb8
   ·refine CW.seq (CW.sr (RL.u (.assign .c) rfl (RL.nil (CW.id ?_))))
    refine CW.block ?_
    refine CW.loop (σ := Int × Str) (fun (k, o) => [Y 1 (.pointer (some ⟨b2, 0, none⟩)), Y 3 (str []), Y 4 (str o), Y 5 (i64 k)]) (fun (k, o) wl => St w nM wl nM [.box b2 (ndC n []) 38] ∧ 0 ≤ k ∧ k ≤ n.e ∧ o = n.s ++ zeros k ∧ len o = len n.s + k) (fun (k, o) => (n.e - k).toNat) ((0, n.s)) [1, 3, 4, 5] rfl ?_ ?_
    ·refine ⟨hS3, ?_⟩; exact ⟨by omega, by omega, by rw [zeros_neg (by omega)]; simp, by omega⟩
    ·rintro ⟨k, o⟩ wl ⟨hS10, h0, h1, hF, hl⟩
     refine CW.seq (CW.sr (RL.m rfl rfl (RL.u (.fldA (q := ⟨b2, 5, none⟩) (.t rfl) (fun w => by kernel_rfl)) rfl (RL.u (.loadB1 (v := (i64 n.e)) hS10 extEq (i := 0) rfl (.t rfl) Tryz.isAgg3 rfl) rfl (RL.u (.lss (.t rfl) (.t rfl)) rfl (RL.nil (CW.id ?_)))))))
     refine CW.cond rfl ?_ ?_ <;> intro hb9 <;> try simp only [zb] at hb9
     ·refine CW.skip (CW.id (CW.seq (CW.block ?_)))
      refine CW.region (RL.m rfl rfl (RL.u (.sadd (.t rfl) .c (fun _ => by first | omega | (simp only [len_app, len_cons, len_nil] at *; omega))) rfl (RL.a rfl rfl (RL.nil (CW.id ?_)))))
      refine CW.region (RL.m rfl rfl (RL.u (.add (.t rfl) .c (fun _ => by omega)) rfl (RL.a rfl rfl ?_)))
      refine RL.nil fun a hs => Exists.intro ((k + 1, o ++ [48])) ⟨hs.keep [1, 3, 4, 5], ?_, ?_⟩
      ·refine ⟨hS10, ?_⟩
       exact ⟨by omega, by omega, by rw [hF, zeros_snoc h0]; simp, by rw [len_app, len_cons, len_nil]; omega⟩
      ·show Int.toNat _ < Int.toNat _; omega
     ·refine CW.exit (CW.at [Y 3 (str []), Y 4 (str o)] rfl ?_)
      refine CW.sr (RL.m rfl rfl (RL.m rfl rfl (RL.u (.sadd (.t rfl) (.t rfl) (fun _ => by first | omega | (simp only [len_app, len_cons, len_nil] at *; omega))) rfl (RL.a rfl rfl (RL.nil (CW.id (CW.ret (hE.r1 rfl rfl ?_))))))))
      clear hE
      have hq : print1 n = [] ++ o := by
       have ho : o = n.s ++ zeros n.e := by rw [hF, show k = n.e from by omega]
       rw [ho]
       unfold print1
       (try dsimp only)
       (repeat' split)
       all_goals first | rfl | (exfalso; simp_all; done) | (simp_all; done) | (exfalso; simp_all; omega)
      rw [hq]; exact ⟨rfl, hS10.low⟩
   ·refine CW.skip (CW.id (CW.seq (CW.sr (RL.u (.fldA (q := ⟨b2, 5, none⟩) (.t rfl) (fun w => by kernel_rfl)) rfl (RL.u (.loadB1 (v := (i64 n.e)) hS3 extEq (i := 0) rfl (.t rfl) Tryz.isAgg3 rfl) rfl (RL.u (.lss (.t rfl) .c) rfl (RL.m rfl rfl (RL.v (.pos rfl rfl) (.fldA (q := ⟨b2, 5, none⟩) (.t rfl) (fun w => by kernel_rfl)) rfl (RL.v (.pos rfl rfl) (.loadB1 (v := (i64 n.e)) hS3 extEq (i := 0) rfl (.g rfl (fun h => h)) Tryz.isAgg3 rfl) rfl ?_)))))))))
    refine RL.v (.pos rfl rfl) (.geq (.g rfl (fun h => h)) .c) rfl (RL.u (.and (.t rfl) (.g rfl (fun h => h))) rfl (RL.nil (CW.id ?_)))
    refine CW.cond rfl ?_ ?_ <;> intro hb10 <;> try simp only [zb] at hb10
    ·refine CW.seq (CW.block ?_)
     refine CW.loop (σ := Str) (fun o => [Y 1 (.pointer (some ⟨b2, 0, none⟩)), Y 3 (str []), Y 4 (str o)]) (fun o wl => St w nM wl nM [.box b2 (ndC n []) 38] ∧ o = zeros (len o - len n.s) ++ n.s ∧ len n.s ≤ len o ∧ (len o ≤ len n.s ∨ len o ≤ 1 - n.e)) (fun o => (1 - n.e - len o).toNat) n.s [1, 3, 4] rfl ?_ ?_
     ·refine ⟨hS3, ?_⟩; exact ⟨by rw [zeros_neg (by omega)]; simp, by omega, by omega⟩
     ·rintro o wl ⟨hS11, hF, hl, hl2⟩
      have hz3 := sub_bd o 0 (len o + n.e)
      have hz4 := from_bd o (len o + n.e)
      refine CW.seq (CW.sr (RL.m rfl rfl (RL.u (.lenS (.t rfl) Tryz.underlying9) rfl (RL.u (.fldA (q := ⟨b2, 5, none⟩) (.t rfl) (fun w => by kernel_rfl)) rfl (RL.u (.loadB1 (v := (i64 n.e)) hS11 extEq (i := 0) rfl (.t rfl) Tryz.isAgg3 rfl) rfl (RL.u (.sub .c (.t rfl) (fun _ => by omega)) rfl (RL.u (.lss (.t rfl) (.t rfl)) rfl (RL.nil (CW.id ?_)))))))))
      refine CW.cond rfl ?_ ?_ <;> intro hb11 <;> try simp only [zb] at hb11
      ·refine CW.skip (CW.id (CW.block ?_))
       refine CW.region (RL.m rfl rfl (RL.u (.sadd .c (.t rfl) (fun _ => by first | omega | (simp only [len_app, len_cons, len_nil] at *; omega))) rfl (RL.a rfl rfl ?_)))
       refine RL.nil fun a hs => Exists.intro ([48] ++ o) ⟨hs.keep [1, 3, 4], ?_, ?_⟩
       ·refine ⟨hS11, ?_⟩
        exact ⟨by rw [len_app, len_cons, len_nil, show 0 + 1 + len o - len n.s = len o - len n.s + 1 from by omega, zeros_succ (by omega)]; exact congrArg (48 :: ·) hF, by rw [len_app, len_cons, len_nil]; omega, by rw [len_app, len_cons, len_nil]; omega⟩
       ·show Int.toNat _ < Int.toNat _; rw [len_app, len_cons, len_nil]; omega
      ·refine CW.exit (CW.at [Y 1 (.pointer (some ⟨b2, 0, none⟩)), Y 3 (str []), Y 4 (str o)] rfl ?_)
       refine CW.seq ?_
       refine CW.regionD hS11 tryz_mixed (by decide +kernel) ?_
       refine RQ.v .none (.move (.t rfl)) rfl ?_
       refine RQ.v .none (.move (.t rfl)) rfl ?_
       refine RQ.v .none (.move (.t rfl)) rfl ?_
       refine RQ.v .none (.lenS (.t rfl) Tryz.underlying9) rfl ?_
       refine RQ.v .none (.fldA (q := ⟨b2, 5, none⟩) (.t rfl) (fun w => by kernel_rfl)) rfl ?_
       refine RQ.v .none (.loadB1 (v := (i64 n.e)) hS11 (fun _ h => h) (i := 0) rfl (.t rfl) Tryz.isAgg3 rfl) rfl ?_
       refine RQ.v .none (.add (.t rfl) (.t rfl) (fun _ => by omega)) rfl ?_
       refine RQ.v .none (.slSh (.t rfl) (.t rfl) Tryz.underlying9 (fun _ => by omega)) rfl ?_
       refine RQ.v .none (.sadd (.t rfl) (.t rfl) (fun _ => by first | omega | (simp only [len_app, len_cons, len_nil] at *; omega))) rfl ?_
       refine RQ.v .none (.sadd (.t rfl) .c (fun _ => by first | omega | (simp only [len_app, len_cons, len_nil] at *; omega))) rfl ?_
       refine RQ.v .none (.move (.t rfl)) rfl ?_
       refine RQ.v .none (.move (.t rfl)) rfl ?_
       refine RQ.v .none (.lenS (.t rfl) Tryz.underlying9) rfl ?_
       refine RQ.v .none (.fldA (q := ⟨b2, 5, none⟩) (.t rfl) (fun w => by kernel_rfl)) rfl ?_
       refine RQ.v .none (.loadB1 (v := (i64 n.e)) hS11 (fun _ h => h) (i := 0) rfl (.t rfl) Tryz.isAgg3 rfl) rfl ?_
       refine RQ.v .none (.add (.t rfl) (.t rfl) (fun _ => by omega)) rfl ?_
       refine RQ.v .none (.slSl (.t rfl) (.t rfl) Tryz.underlying9 (fun _ => by omega)) rfl ?_
       refine RQ.v .none (.sadd (.t rfl) (.t rfl) (fun _ => by first | omega | (simp only [len_app, len_cons, len_nil] at *; omega))) rfl ?_
       refine RQ.v .none (.assign (.t rfl)) rfl ?_
       refine RQ.nil (fun a hs w12 hS13 => CW.at [Y 2 (str ((([] ++ (Eng.sub o 0 ((len o) + n.e))) ++ [46]) ++ (Eng.from' o ((len o) + n.e))))] rfl ?_ a hs)
       refine CW.ret (hE.r1 rfl rfl ?_)
       have hq : print1 n = (([] ++ (Eng.sub o 0 ((len o) + n.e))) ++ [46]) ++ (Eng.from' o ((len o) + n.e)) := by
        have ho : o = zeros (1 - n.e - len n.s) ++ n.s := by
         rcases hl2 with h | h
         ·rw [zeros_neg (by omega)] at hF; rw [zeros_neg (by omega)]; exact hF
         ·rw [show len o - len n.s = 1 - n.e - len n.s from by omega] at hF; exact hF
        rw [ho]
        have c1 : (n.s == []) = false := by simpa using hb7
        have c2 : (decide (0 ≤ n.e) && decide (len n.s + n.e ≤ 20)) = false := by rw [Bool.and_eq_false_iff, decide_eq_false_iff_not]; left; omega
        have c3 : (decide (n.e < 0) && decide (-20 ≤ n.e)) = true := by rw [Bool.and_eq_true, decide_eq_true_eq, decide_eq_true_eq]; omega
        simp only [print1, c1, c2, c3, hb1, if_true, if_false, Bool.false_eq_true]
       rw [hq]; exact ⟨rfl, hS13.low⟩
    ·refine CW.skip (CW.id (CW.sr (RL.m rfl rfl (RL.m rfl rfl (RL.u (.sadd (.t rfl) (.t rfl) (fun _ => by first | omega | (simp only [len_app, len_cons, len_nil] at *; omega))) rfl (RL.u (.sadd (.t rfl) .c (fun _ => by first | omega | (simp only [len_app, len_cons, len_nil] at *; omega))) rfl (RL.u (.fldA (q := ⟨b2, 5, none⟩) (.t rfl) (fun w => by kernel_rfl)) rfl (RL.u (.loadB1 (v := (i64 n.e)) hS3 extEq (i := 0) rfl (.t rfl) Tryz.isAgg3 rfl) rfl ?_))))))))
     refine RL.callE hS3 .none Tryz.call121 (.cons (.t rfl) .nil) (fun _ => (decimal_c n.e _ (by omega))) rfl (fun w14 hS15 => ?_)
     refine RL.u (.sadd (.t rfl) (.t rfl) (fun _ => by first | omega | (simp only [len_app, len_cons, len_nil] at *; omega))) rfl (RL.a rfl rfl ?_)
     refine RL.nil (CW.at [Y 2 (str ((([] ++ n.s) ++ [101]) ++ (Lib.itoa n.e)))] rfl (CW.ret (hE.r1 rfl rfl ?_)))
     clear hE
     have hq : print1 n = (([] ++ n.s) ++ [101]) ++ (Lib.itoa n.e) := by
      unfold print1
      (try dsimp only)
      (repeat' split)
      all_goals first | rfl | (exfalso; omega) | (exfalso; simp_all; done) | (simp_all; done) | (exfalso; simp_all; omega)
     rw [hq]; exact ⟨rfl, hS15.low⟩

end Go.Proofs.YtjfaikgooldcbaaGreatDoor
