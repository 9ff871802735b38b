/-
  THE ENGINE, PART 19: a deferred closure's region: behind its recover operation the others are plain. Over any program.
  THE ENGINE, PART 20: a body behind its one defer: the regions' rules as they are, the code's rules with the deferred call beside. Over any program.
-/
import Derived.Test.YtjfaikgooldcbaaGreatDoorZp5
import Derived.Laws.BitsLemmas
import Derived.Test.YtjfaikgooldcbaaGreatDoorZp3
import Derived.Test.YtjfaikgooldcbaaGreatDoorProg
import Derived.Test.YtjfaikgooldcbaaGreatDoorZp11
import Derived.Test.YtjfaikgooldcbaaGreatDoorZp7
import Derived.Defers
import Derived.Recover
set_option linter.unusedVariables false
set_option linter.unusedSimpArgs false
namespace Go.Proofs.YtjfaikgooldcbaaGreatDoor
open Go.Eng

/- loupe/louperef01.decimal -/
set_option maxRecDepth 100000 in
theorem decimal_w (n : Int) (w : World) (ih : ∀ (k : Int) (w : World), n < k → k < 0 → Calls Tryz.prog 121 [i64 k].toArray w fun e w' => e = .returned (str (Lib.itoa k)) ∧ Ext w w') (h : -1000000 ≤ n ∧ n ≤ 1000000) :
  Calls Tryz.prog 121 [(i64 n)].toArray w fun e w' => e = .returned (str (Lib.itoa n)) ∧ Ext w w' := by
 refine CW.enter1 Tryz.func121 rfl Tryz.ntmps121 (Nat.le_of_ble_eq_true rfl) fun Q hE => ?_
 have hS : St w (fun _ _ => none) w (fun _ _ => none) [] := St.start ⟨fun _ _ _ h => by cases h⟩
 refine CW.weaken [0] (L' := [Y 0 (i64 n)]) ?_ rfl
 refine CW.sr ?_
 refine RL.u (.assign .c) rfl ?_
 refine RL.nil (CW.id ?_)
 refine CW.seq ?_
 refine CW.sr ?_
 refine RL.m rfl rfl (RL.u (.gtr (.t rfl) .c) rfl (RL.m rfl rfl (RL.v (.pos rfl rfl) (.move (.t rfl)) rfl (RL.v (.pos rfl rfl) (.lss (.g rfl (fun h => h)) .c) rfl (RL.u (.and (.t rfl) (.g rfl (fun h => h))) rfl ?_)))))
 refine RL.nil (CW.id ?_)
 refine CW.cond rfl (fun hb1 => ?_) (fun hb1 => ?_)
 ·try simp only [zb] at hb1
  refine CW.sr ?_
  refine RL.m rfl rfl (RL.u (.sub .c (.t rfl) (fun _ => by first | omega | (have hz6 := itoa_len (-(-n / 10)); simp only [toStr, List.map_cons, List.map_nil, len_cons, len_nil]; omega))) rfl (RL.u (.cvtK (r := 48 - n) (.t rfl) Tryz.underlying3 Tryz.underlying5 (fun _ => by exact Eng.wrap_u8 (by omega))) rfl ?_))
  refine RL.buildSlice (n := 1) (sz := 1) (e := 5) (vs := [(0, (.int .u8 (48 - n)))]) (cs := [(.int .u8 (48 - n))]) hS (.cons (.t rfl) .nil) rfl rfl (fun w => by kernel_rfl) rfl (fun v1 w2 M3 hS4 hle5 => ?_)
  replace hS4 : St w (fun _ _ => none) w2 M3 [.own 5 1 v1 (([48 - n] : List Int)).length ((([48 - n] : List Int)).flatMap u8I)] := hS4
  refine RL.u (.b2s hS4 extEq (hS4.sl (i := 0) rfl) (.t rfl) Tryz.underlying63 Tryz.underlying5 Tryz.underlying9) rfl (RL.u (.sadd .c (.t rfl) (fun _ => by first | omega | (have hz6 := itoa_len (-(-n / 10)); simp only [toStr, List.map_cons, List.map_nil, len_cons, len_nil]; omega))) rfl (RL.a rfl rfl ?_))
  refine RL.nil (CW.id ?_)
  refine CW.ret (hE.r1 rfl rfl ?_)
  exact ⟨by rw [itoa_neg_one (by omega) (by omega)], hS4.low⟩
 ·try simp only [zb] at hb1
  refine CW.skip (CW.id ?_)
  refine CW.seq ?_
  refine CW.sr ?_
  refine RL.m rfl rfl (RL.u (.lss (.t rfl) .c) rfl ?_)
  refine RL.nil (CW.id ?_)
  refine CW.cond rfl (fun hb2 => ?_) (fun hb2 => ?_)
  ·try simp only [zb] at hb2
   refine CW.seq ?_
   refine CW.weaken [0] (L' := [Y 0 (i64 n)]) ?_ rfl
   refine CW.regionF [.is true (i64 n), .is true (i64 (-((-(n)) / 10))), .is true (str (Lib.itoa (-((-(n)) / 10)))), .is true (i64 n), .is true (i64 (-((-(n)) % 10))), .is true (i64 (48 - (-((-(n)) % 10)))), .is true (.int .u8 (48 - (-((-(n)) % 10)))), .sl 1 (([48 - (-((-(n)) % 10))] : List Int)).length ((([48 - (-((-(n)) % 10))] : List Int)).flatMap u8I), .is true (str (toStr (([48 - (-((-(n)) % 10))] : List Int)))), .is true (str ((Lib.itoa (-((-(n)) / 10))) ++ (toStr (([48 - (-((-(n)) % 10))] : List Int))))), .is true (str ((Lib.itoa (-((-(n)) / 10))) ++ (toStr (([48 - (-((-(n)) % 10))] : List Int)))))] hS tryz_mixed [0] rfl (by decide +kernel) (.cons ?_ (.cons ?_ (.cons ?_ (.cons ?_ (.cons ?_ (.cons ?_ (.cons ?_ (.cons ?_ (.cons ?_ (.cons ?_ (.cons ?_ (.nil)))))))))))) ?_
   ·intro LL w6 M7 hle9 hS8 hK hD
    refine RL.u (.move (.t (hK _ _ rfl))) rfl ?_
    exact RL.nil (RA.next fun a hs => ⟨_, _, Mem.le.refl _, hS8, hs, _, _, rfl, rfl, rfl⟩)
   ·intro LL w10 M11 hle13 hS12 hK hD
    obtain ⟨g18, v18, hl18, rfl, rfl⟩ := hD 0 (by decide +kernel)
    refine RL.u (.quoK (r := -((-(n)) / 10)) (.t hl18) .c (fun _ => by first | omega | (have hz6 := itoa_len (-(-n / 10)); simp only [toStr, List.map_cons, List.map_nil, len_cons, len_nil]; omega)) (fun _ => by rw [tdiv_neg' (by omega)]; exact Eng.wrap_i64 (by omega))) rfl ?_
    exact RL.nil (RA.next fun a hs => ⟨_, _, Mem.le.refl _, hS12, hs, _, _, rfl, rfl, rfl⟩)
   ·intro LL w14 M15 hle17 hS16 hK hD
    obtain ⟨g19, v19, hl19, rfl, rfl⟩ := hD 1 (by decide +kernel)
    refine RL.callE hS16 .none Tryz.call121 (.cons (.t hl19) .nil) (fun _ => (ih (-((-(n)) / 10)) _ (by omega) (by omega))) rfl (fun w18 hS19 => ?_)
    exact RL.nil (RA.next fun a hs => ⟨_, _, Mem.le.refl _, hS19, hs, _, _, rfl, rfl, rfl⟩)
   ·intro LL w20 M21 hle23 hS22 hK hD
    refine RL.u (.move (.t (hK _ _ rfl))) rfl ?_
    exact RL.nil (RA.next fun a hs => ⟨_, _, Mem.le.refl _, hS22, hs, _, _, rfl, rfl, rfl⟩)
   ·intro LL w24 M25 hle27 hS26 hK hD
    obtain ⟨g21, v21, hl21, rfl, rfl⟩ := hD 3 (by decide +kernel)
    refine RL.u (.remK (r := -((-(n)) % 10)) (.t hl21) .c (fun _ => by first | omega | (have hz6 := itoa_len (-(-n / 10)); simp only [toStr, List.map_cons, List.map_nil, len_cons, len_nil]; omega)) (fun _ => by exact tmod_neg' (by omega))) rfl ?_
    exact RL.nil (RA.next fun a hs => ⟨_, _, Mem.le.refl _, hS26, hs, _, _, rfl, rfl, rfl⟩)
   ·intro LL w28 M29 hle31 hS30 hK hD
    obtain ⟨g22, v22, hl22, rfl, rfl⟩ := hD 4 (by decide +kernel)
    refine RL.u (.sub .c (.t hl22) (fun _ => by first | omega | (have hz6 := itoa_len (-(-n / 10)); simp only [toStr, List.map_cons, List.map_nil, len_cons, len_nil]; omega))) rfl ?_
    exact RL.nil (RA.next fun a hs => ⟨_, _, Mem.le.refl _, hS30, hs, _, _, rfl, rfl, rfl⟩)
   ·intro LL w32 M33 hle35 hS34 hK hD
    obtain ⟨g23, v23, hl23, rfl, rfl⟩ := hD 5 (by decide +kernel)
    refine RL.u (.cvtK (r := 48 - (-((-(n)) % 10))) (.t hl23) Tryz.underlying3 Tryz.underlying5 (fun _ => by exact Eng.wrap_u8 (by omega))) rfl ?_
    exact RL.nil (RA.next fun a hs => ⟨_, _, Mem.le.refl _, hS34, hs, _, _, rfl, rfl, rfl⟩)
   ·intro LL w36 M37 hle39 hS38 hK hD
    obtain ⟨g24, v24, hl24, rfl, rfl⟩ := hD 6 (by decide +kernel)
    refine RL.buildSlice (n := 1) (sz := 1) (e := 5) (vs := [(0, (.int .u8 (48 - (-((-(n)) % 10)))))]) (cs := [(.int .u8 (48 - (-((-(n)) % 10))))]) hS38 (.cons (.t hl24) .nil) rfl rfl (fun w => by kernel_rfl) rfl (fun v40 w41 M42 hS43 hle44 => ?_)
    replace hS43 : St w (fun _ _ => none) w41 M42 [.own 5 1 v40 (([48 - (-((-(n)) % 10))] : List Int)).length ((([48 - (-((-(n)) % 10))] : List Int)).flatMap u8I)] := hS43
    have hfact := (hS43.sl (i := 0) rfl)
    replace hS43 : St w (fun _ _ => none) w41 M42 [] := hS43.erase 0 rfl
    exact RL.nil (RA.next fun a hs => ⟨_, _, hle44, hS43, hs, _, _, rfl, rfl, hfact⟩)
   ·intro LL w45 M46 hle48 hS47 hK hD
    obtain ⟨g25, v25, hl25, rfl, hsl25⟩ := hD 7 (by decide +kernel)
    refine RL.u (.b2s hS47 extEq hsl25 (.t hl25) Tryz.underlying63 Tryz.underlying5 Tryz.underlying9) rfl ?_
    exact RL.nil (RA.next fun a hs => ⟨_, _, Mem.le.refl _, hS47, hs, _, _, rfl, rfl, rfl⟩)
   ·intro LL w49 M50 hle52 hS51 hK hD
    obtain ⟨g20, v20, hl20, rfl, rfl⟩ := hD 2 (by decide +kernel)
    obtain ⟨g26, v26, hl26, rfl, rfl⟩ := hD 8 (by decide +kernel)
    refine RL.u (.sadd (.t hl20) (.t hl26) (fun _ => by first | omega | (have hz6 := itoa_len (-(-n / 10)); simp only [toStr, List.map_cons, List.map_nil, len_cons, len_nil]; omega))) rfl ?_
    exact RL.nil (RA.next fun a hs => ⟨_, _, Mem.le.refl _, hS51, hs, _, _, rfl, rfl, rfl⟩)
   ·intro LL w53 M54 hle56 hS55 hK hD
    obtain ⟨g27, v27, hl27, rfl, rfl⟩ := hD 9 (by decide +kernel)
    obtain ⟨g27, v27, hl27, rfl, rfl⟩ := hD 9 (by decide +kernel)
    refine RL.u (.assign (.t hl27)) rfl ?_
    exact RL.nil (RA.next fun a hs => ⟨_, _, Mem.le.refl _, hS55, hs, _, _, rfl, rfl, rfl⟩)
   intro w57 M58 LL hle60 hS59 hK hD
   obtain ⟨g2, v2, hl2, rfl, rfl⟩ := hD 10 (by decide)
   refine slots_sub (E := [Y 0 (i64 n), Y 2 (str ((Lib.itoa (-((-(n)) / 10))) ++ (toStr (([48 - (-((-(n)) % 10))] : List Int)))))]) (.cons (hK _ _ rfl) (.cons hl2 .nil)) ?_
   replace hS59 : St w (fun _ _ => none) w57 M58 [] := hS59
   refine (CW.at [Y 2 (str ((Lib.itoa (-((-(n)) / 10))) ++ (toStr (([48 - (-((-(n)) % 10))] : List Int)))))] rfl ?_)
   refine CW.ret (hE.r1 rfl rfl ?_)
   exact ⟨by rw [itoa_neg_step (k := n) (by omega), show (48 - -(-n % 10) : Int) = 48 + -n % 10 from by omega], hS59.low⟩
  ·try simp only [zb] at hb2
   refine CW.skip (CW.id ?_)
   refine CW.sr ?_
   refine RL.m rfl rfl (RL.u (.rem (.t rfl) .c (fun _ => by first | omega | (have hz6 := itoa_len (-(-n / 10)); simp only [toStr, List.map_cons, List.map_nil, len_cons, len_nil]; omega))) rfl (RL.u (.add .c (.t rfl) (fun _ => by first | omega | (have hz6 := itoa_len (-(-n / 10)); simp only [toStr, List.map_cons, List.map_nil, len_cons, len_nil]; omega))) rfl (RL.u (.cvtK (r := 48 + (n % 10)) (.t rfl) Tryz.underlying3 Tryz.underlying5 (fun _ => by exact Eng.wrap_u8 (by omega))) rfl ?_)))
   refine RL.buildSlice (n := 1) (sz := 1) (e := 5) (vs := [(0, (.int .u8 (48 + (n % 10))))]) (cs := [(.int .u8 (48 + (n % 10)))]) hS (.cons (.t rfl) .nil) rfl rfl (fun w => by kernel_rfl) rfl (fun v61 w62 M63 hS64 hle65 => ?_)
   replace hS64 : St w (fun _ _ => none) w62 M63 [.own 5 1 v61 (([48 + (n % 10)] : List Int)).length ((([48 + (n % 10)] : List Int)).flatMap u8I)] := hS64
   refine RL.u (.b2s hS64 extEq (hS64.sl (i := 0) rfl) (.t rfl) Tryz.underlying63 Tryz.underlying5 Tryz.underlying9) rfl (RL.a rfl rfl ?_)
   refine RL.nil (CW.id ?_)
   refine CW.seq ?_
   refine CW.block ?_
   refine CW.loop (σ := Int × Str × Mem) (fun (k, o, Ml) => [Y 0 (i64 k), Y 3 (str o)]) (fun (k, o, Ml) wl => St w (fun _ _ => none) wl Ml [.own 5 1 v61 (([48 + (n % 10)] : List Int)).length ((([48 + (n % 10)] : List Int)).flatMap u8I)] ∧ 0 ≤ k ∧ k ≤ 1000000 ∧ len o + k ≤ 1000001 ∧ Lib.itoa n = (if 10 ≤ k then Lib.itoa (k / 10) else []) ++ o) (fun (k, o, Ml) => k.toNat) ((n, toStr [48 + n % 10], M63)) [0, 3] rfl ?_ ?_
   ·refine ⟨hS64, ?_⟩; exact ⟨by omega, by omega, by unfold toStr; simp only [List.map_cons, List.map_nil, len_cons, len_nil]; omega, itoa_step (by omega)⟩
   ·rintro ⟨k, o, Ml⟩ wl ⟨hS66, hk, hk2, hlo, hF⟩
    refine CW.seq ?_
    refine CW.sr ?_
    refine RL.m rfl rfl (RL.u (.geq (.t rfl) .c) rfl ?_)
    refine RL.nil (CW.id ?_)
    refine CW.cond rfl (fun hb3 => ?_) (fun hb3 => ?_)
    ·try simp only [zb] at hb3
     refine CW.skip (CW.id ?_)
     refine CW.block ?_
     refine CW.sr ?_
     refine RL.m rfl rfl (RL.u (.quo (.t rfl) .c (fun _ => by first | omega | (have hz6 := itoa_len (-(-n / 10)); simp only [toStr, List.map_cons, List.map_nil, len_cons, len_nil]; omega))) rfl (RL.a rfl rfl ?_))
     refine RL.nil (CW.id ?_)
     refine CW.region ?_
     refine RL.m rfl rfl (RL.u (.rem (.t rfl) .c (fun _ => by first | omega | (have hz6 := itoa_len (-(-n / 10)); simp only [toStr, List.map_cons, List.map_nil, len_cons, len_nil]; omega))) rfl (RL.u (.add .c (.t rfl) (fun _ => by first | omega | (have hz6 := itoa_len (-(-n / 10)); simp only [toStr, List.map_cons, List.map_nil, len_cons, len_nil]; omega))) rfl (RL.u (.cvtK (r := 48 + ((k / 10) % 10)) (.t rfl) Tryz.underlying3 Tryz.underlying5 (fun _ => by exact Eng.wrap_u8 (by omega))) rfl ?_)))
     refine RL.buildSlice (n := 1) (sz := 1) (e := 5) (vs := [(0, (.int .u8 (48 + ((k / 10) % 10))))]) (cs := [(.int .u8 (48 + ((k / 10) % 10)))]) hS66 (.cons (.t rfl) .nil) rfl rfl (fun w => by kernel_rfl) rfl (fun v67 w68 M69 hS70 hle71 => ?_)
     replace hS70 : St w (fun _ _ => none) w68 M69 [.own 5 1 v67 (([48 + ((k / 10) % 10)] : List Int)).length ((([48 + ((k / 10) % 10)] : List Int)).flatMap u8I), .own 5 1 v61 (([48 + (n % 10)] : List Int)).length ((([48 + (n % 10)] : List Int)).flatMap u8I)] := hS70
     refine RL.u (.b2s hS70 extEq (hS70.sl (i := 0) rfl) (.t rfl) Tryz.underlying63 Tryz.underlying5 Tryz.underlying9) rfl (RL.m rfl rfl (RL.u (.sadd (.t rfl) (.t rfl) (fun _ => by first | omega | (have hz6 := itoa_len (-(-n / 10)); simp only [toStr, List.map_cons, List.map_nil, len_cons, len_nil]; omega))) rfl (RL.a rfl rfl ?_)))
     replace hS70 : St w (fun _ _ => none) w68 M69 [.own 5 1 v61 (([48 + (n % 10)] : List Int)).length ((([48 + (n % 10)] : List Int)).flatMap u8I)] := hS70.erase 0 rfl
     refine RL.nil fun a hs => Exists.intro ((k / 10, toStr [48 + k / 10 % 10] ++ o, M69)) ⟨hs.keep [0, 3], ?_, ?_⟩
     ·refine ⟨hS70, ?_⟩
      refine ⟨by omega, by omega, by unfold toStr; simp only [List.map_cons, List.map_nil, len_app, len_cons, len_nil]; omega, ?_⟩
      rw [hF, if_pos (by omega), itoa_step (k := k / 10) (by omega), List.append_assoc]
     ·show Int.toNat _ < Int.toNat _; omega
    ·try simp only [zb] at hb3
     refine CW.exit (CW.at [Y 3 (str o)] rfl ?_)
     refine CW.sr ?_
     refine RL.m rfl rfl (RL.a rfl rfl ?_)
     refine RL.nil (CW.id ?_)
     refine CW.ret (hE.r1 rfl rfl ?_)
     exact ⟨by rw [hF, if_neg (by omega)]; rfl, hS66.low⟩

theorem decimal_c (n : Int) (w : World) (h : -1000000 ≤ n ∧ n ≤ 1000000) : Calls Tryz.prog 121 [i64 n].toArray w fun e w' => e = .returned (str (Lib.itoa n)) ∧ Ext w w' := by
  have key : ∀ (k : Nat) (n : Int) (w : World), (-n).toNat ≤ k → -1000000 ≤ n ∧ n ≤ 1000000 → Calls Tryz.prog 121 [i64 n].toArray w fun e w' => e = .returned (str (Lib.itoa n)) ∧ Ext w w' := by
    intro k
    induction k with
    | zero => intro n w hk h; exact decimal_w n w (fun k w h1 h2 => by omega) h
    | succ k ih => intro n w hk h; exact decimal_w n w (fun j w h1 h2 => ih j w (by omega) (by omega)) h
  exact key _ n w (Nat.le_refl _) h
/- loupe/louperef01.Print -/
set_option maxRecDepth 100000 in
theorem print3_c (n : Nd) (w : World) (hb : len n.s ≤ 1099511627776) (he : -1000000 ≤ n.e ∧ n.e ≤ 1000000) :
  Calls Tryz.prog 87 [(ndV n)].toArray w fun e w' => e = .returned (str (print1 n)) ∧ Ext w w' := by
 refine CW.enter1 Tryz.func87 rfl Tryz.ntmps87 (Nat.le_of_ble_eq_true rfl) fun Q hE => ?_
 have := len_nonneg n.s
 have hz := zeros_len' (1 - n.e - len n.s)
 have hz2 := zeros_len' n.e
 have hz5 := itoa_len n.e
 have hS : St w (fun _ _ => none) w (fun _ _ => none) [] := St.start ⟨fun _ _ _ h => by cases h⟩
 refine CW.weaken [0] (L' := [Y 0 (ndV n)]) ?_ rfl
 refine CW.sr ?_
 refine RL.box (v := (ndV n)) hS (.t rfl) rfl (fun w1 b2 hS3 => ?_)
 refine RL.u (.assign .c) rfl ?_
 refine RL.nil (CW.id ?_)
 refine CW.sr ?_
 refine RL.u (.assign .c) rfl ?_
 refine RL.nil (CW.id ?_)
 refine CW.seq ?_
 refine CW.sr ?_
 refine RL.u (.fldA (q := ⟨b2, 4, none⟩) (.t rfl) (fun w => by kernel_rfl)) rfl (RL.u (.loadB1 (v := (.bool n.neg)) hS3 extEq (i := 0) rfl (.t rfl) Tryz.isAgg4 rfl) rfl ?_)
 refine RL.nil (CW.id ?_)
 refine CW.cond rfl (fun hb1 => ?_) (fun hb1 => ?_)
 ·try simp only [zb] at hb1
  refine CW.region ?_
  refine RL.u (.assign .c) rfl ?_
  refine RL.nil (CW.id ?_)
  refine CW.sr ?_
  refine RL.u (.fldA (q := ⟨b2, 3, none⟩) (.t rfl) (fun w => by kernel_rfl)) rfl (RL.u (.loadB1 (v := (str n.s)) hS3 extEq (i := 0) rfl (.t rfl) Tryz.isAgg9 rfl) rfl (RL.a rfl rfl ?_))
  refine RL.nil (CW.id ?_)
  refine CW.seq ?_
  refine CW.sr ?_
  refine RL.m rfl rfl (RL.u (.seql (.t rfl) .c) rfl ?_)
  refine RL.nil (CW.id ?_)
  refine CW.cond rfl (fun hb2 => ?_) (fun hb2 => ?_)
  ·try simp only [zb] at hb2
   refine CW.sr ?_
   refine RL.u (.assign .c) rfl ?_
   refine RL.nil (CW.id ?_)
   refine CW.ret (hE.r1 rfl rfl ?_)
   clear hE
   have hq : print1 n = [48] := by
    unfold print1
    (try dsimp only)
    (repeat' split)
    all_goals first | rfl | (exfalso; omega) | (exfalso; simp_all; done) | (simp_all; done) | (exfalso; simp_all; omega)
   rw [hq]; exact ⟨rfl, hS3.low⟩
  ·try simp only [zb] at hb2
   refine CW.skip (CW.id ?_)
   refine CW.seq ?_
   refine CW.sr ?_
   refine RL.u (.fldA (q := ⟨b2, 5, none⟩) (.t rfl) (fun w => by kernel_rfl)) rfl (RL.u (.loadB1 (v := (i64 n.e)) hS3 extEq (i := 0) rfl (.t rfl) Tryz.isAgg3 rfl) rfl (RL.u (.geq (.t rfl) .c) rfl (RL.m rfl rfl (RL.v (.pos rfl rfl) (.move (.t rfl)) rfl (RL.v (.pos rfl rfl) (.lenS (.g rfl (fun h => h)) Tryz.underlying9) rfl ?_)))))
   refine RL.v (.pos rfl rfl) (.fldA (q := ⟨b2, 5, none⟩) (.t rfl) (fun w => by kernel_rfl)) rfl (RL.v (.pos rfl rfl) (.loadB1 (v := (i64 n.e)) hS3 extEq (i := 0) rfl (.g rfl (fun h => h)) Tryz.isAgg3 rfl) rfl (RL.v (.pos rfl rfl) (.add (.g rfl (fun h => h)) (.g rfl (fun h => h)) (fun hW => by simp only [zb] at hW; first | omega | (simp only [len_app, len_cons, len_nil] at *; omega))) rfl (RL.v (.pos rfl rfl) (.leq (.g rfl (fun h => h)) .c) rfl (RL.u (.and (.t rfl) (.g rfl (fun h => h))) rfl ?_))))
   refine RL.nil (CW.id ?_)
   refine CW.cond rfl (fun hb3 => ?_) (fun hb3 => ?_)
   ·try simp only [zb] at hb3
    refine CW.seq ?_
    refine CW.sr ?_
    refine RL.u (.assign .c) rfl ?_
    refine RL.nil (CW.id ?_)
    refine CW.block ?_
    refine CW.loop (σ := Int × Str) (fun (k, o) => [Y 1 (.pointer (some ⟨b2, 0, none⟩)), Y 3 (str [45]), Y 4 (str o), Y 5 (i64 k)]) (fun (k, o) wl => St w (fun _ _ => none) wl (fun _ _ => none) [.box b2 (ndC n []) 38] ∧ 0 ≤ k ∧ k ≤ n.e ∧ o = n.s ++ zeros k ∧ len o = len n.s + k) (fun (k, o) => (n.e - k).toNat) ((0, n.s)) [1, 3, 4, 5] rfl ?_ ?_
    ·refine ⟨hS3, ?_⟩; exact ⟨by omega, by omega, by rw [zeros_neg (by omega)]; simp, by omega⟩
    ·rintro ⟨k, o⟩ wl ⟨hS4, h0, h1, hF, hl⟩
     refine CW.seq ?_
     refine CW.sr ?_
     refine RL.m rfl rfl (RL.u (.fldA (q := ⟨b2, 5, none⟩) (.t rfl) (fun w => by kernel_rfl)) rfl (RL.u (.loadB1 (v := (i64 n.e)) hS4 extEq (i := 0) rfl (.t rfl) Tryz.isAgg3 rfl) rfl (RL.u (.lss (.t rfl) (.t rfl)) rfl ?_)))
     refine RL.nil (CW.id ?_)
     refine CW.cond rfl (fun hb4 => ?_) (fun hb4 => ?_)
     ·try simp only [zb] at hb4
      refine CW.skip (CW.id ?_)
      refine CW.seq ?_
      refine CW.block ?_
      refine CW.region ?_
      refine RL.m rfl rfl (RL.u (.sadd (.t rfl) .c (fun _ => by first | omega | (simp only [len_app, len_cons, len_nil] at *; omega))) rfl (RL.a rfl rfl ?_))
      refine RL.nil (CW.id ?_)
      refine CW.region ?_
      refine RL.m rfl rfl (RL.u (.add (.t rfl) .c (fun _ => by first | omega | (simp only [len_app, len_cons, len_nil] at *; omega))) rfl (RL.a rfl rfl ?_))
      refine RL.nil fun a hs => Exists.intro ((k + 1, o ++ [48])) ⟨hs.keep [1, 3, 4, 5], ?_, ?_⟩
      ·refine ⟨hS4, ?_⟩
       exact ⟨by omega, by omega, by rw [hF, zeros_snoc h0]; simp, by rw [len_app, len_cons, len_nil]; omega⟩
      ·show Int.toNat _ < Int.toNat _; omega
     ·try simp only [zb] at hb4
      refine CW.exit (CW.at [Y 3 (str [45]), Y 4 (str o)] rfl ?_)
      refine CW.sr ?_
      refine RL.m rfl rfl (RL.m rfl rfl (RL.u (.sadd (.t rfl) (.t rfl) (fun _ => by first | omega | (simp only [len_app, len_cons, len_nil] at *; omega))) rfl (RL.a rfl rfl ?_)))
      refine RL.nil (CW.id ?_)
      refine CW.ret (hE.r1 rfl rfl ?_)
      clear hE
      have hq : print1 n = [45] ++ o := by
       have ho : o = n.s ++ zeros n.e := by rw [hF, show k = n.e from by omega]
       rw [ho]
       unfold print1
       (try dsimp only)
       (repeat' split)
       all_goals first | rfl | (exfalso; simp_all; done) | (simp_all; done) | (exfalso; simp_all; omega)
      rw [hq]; exact ⟨rfl, hS4.low⟩
   ·try simp only [zb] at hb3
    refine CW.skip (CW.id ?_)
    refine CW.seq ?_
    refine CW.sr ?_
    refine RL.u (.fldA (q := ⟨b2, 5, none⟩) (.t rfl) (fun w => by kernel_rfl)) rfl (RL.u (.loadB1 (v := (i64 n.e)) hS3 extEq (i := 0) rfl (.t rfl) Tryz.isAgg3 rfl) rfl (RL.u (.lss (.t rfl) .c) rfl (RL.m rfl rfl (RL.v (.pos rfl rfl) (.fldA (q := ⟨b2, 5, none⟩) (.t rfl) (fun w => by kernel_rfl)) rfl (RL.v (.pos rfl rfl) (.loadB1 (v := (i64 n.e)) hS3 extEq (i := 0) rfl (.g rfl (fun h => h)) Tryz.isAgg3 rfl) rfl ?_)))))
    refine RL.v (.pos rfl rfl) (.geq (.g rfl (fun h => h)) .c) rfl (RL.u (.and (.t rfl) (.g rfl (fun h => h))) rfl ?_)
    refine RL.nil (CW.id ?_)
    refine CW.cond rfl (fun hb5 => ?_) (fun hb5 => ?_)
    ·try simp only [zb] at hb5
     refine CW.seq ?_
     refine CW.block ?_
     refine CW.loop (σ := Str) (fun o => [Y 1 (.pointer (some ⟨b2, 0, none⟩)), Y 3 (str [45]), Y 4 (str o)]) (fun o wl => St w (fun _ _ => none) wl (fun _ _ => none) [.box b2 (ndC n []) 38] ∧ o = zeros (len o - len n.s) ++ n.s ∧ len n.s ≤ len o ∧ (len o ≤ len n.s ∨ len o ≤ 1 - n.e)) (fun o => (1 - n.e - len o).toNat) n.s [1, 3, 4] rfl ?_ ?_
     ·refine ⟨hS3, ?_⟩; exact ⟨by rw [zeros_neg (by omega)]; simp, by omega, by omega⟩
     ·rintro o wl ⟨hS5, hF, hl, hl2⟩
      have hz3 := sub_bd o 0 (len o + n.e)
      have hz4 := from_bd o (len o + n.e)
      refine CW.seq ?_
      refine CW.sr ?_
      refine RL.m rfl rfl (RL.u (.lenS (.t rfl) Tryz.underlying9) rfl (RL.u (.fldA (q := ⟨b2, 5, none⟩) (.t rfl) (fun w => by kernel_rfl)) rfl (RL.u (.loadB1 (v := (i64 n.e)) hS5 extEq (i := 0) rfl (.t rfl) Tryz.isAgg3 rfl) rfl (RL.u (.sub .c (.t rfl) (fun _ => by first | omega | (simp only [len_app, len_cons, len_nil] at *; omega))) rfl (RL.u (.lss (.t rfl) (.t rfl)) rfl ?_)))))
      refine RL.nil (CW.id ?_)
      refine CW.cond rfl (fun hb6 => ?_) (fun hb6 => ?_)
      ·try simp only [zb] at hb6
       refine CW.skip (CW.id ?_)
       refine CW.block ?_
       refine CW.region ?_
       refine RL.m rfl rfl (RL.u (.sadd .c (.t rfl) (fun _ => by first | omega | (simp only [len_app, len_cons, len_nil] at *; omega))) rfl (RL.a rfl rfl ?_))
       refine RL.nil fun a hs => Exists.intro ([48] ++ o) ⟨hs.keep [1, 3, 4], ?_, ?_⟩
       ·refine ⟨hS5, ?_⟩
        exact ⟨by rw [len_app, len_cons, len_nil, show 0 + 1 + len o - len n.s = len o - len n.s + 1 from by omega, zeros_succ (by omega)]; exact congrArg (48 :: ·) hF, by rw [len_app, len_cons, len_nil]; omega, by rw [len_app, len_cons, len_nil]; omega⟩
       ·show Int.toNat _ < Int.toNat _; rw [len_app, len_cons, len_nil]; omega
      ·try simp only [zb] at hb6
       refine CW.exit (CW.at [Y 1 (.pointer (some ⟨b2, 0, none⟩)), Y 3 (str [45]), Y 4 (str o)] rfl ?_)
       refine CW.seq ?_
       refine CW.regionD hS5 tryz_mixed (by decide +kernel) ?_
       refine RQ.v .none (.move (.t rfl)) rfl ?_
       refine RQ.v .none (.move (.t rfl)) rfl ?_
       refine RQ.v .none (.move (.t rfl)) rfl ?_
       refine RQ.v .none (.lenS (.t rfl) Tryz.underlying9) rfl ?_
       refine RQ.v .none (.fldA (q := ⟨b2, 5, none⟩) (.t rfl) (fun w => by kernel_rfl)) rfl ?_
       refine RQ.v .none (.loadB1 (v := (i64 n.e)) hS5 (fun _ h => h) (i := 0) rfl (.t rfl) Tryz.isAgg3 rfl) rfl ?_
       refine RQ.v .none (.add (.t rfl) (.t rfl) (fun _ => by first | omega | (simp only [len_app, len_cons, len_nil] at *; omega))) rfl ?_
       refine RQ.v .none (.slSh (.t rfl) (.t rfl) Tryz.underlying9 (fun _ => by first | omega | (simp only [len_app, len_cons, len_nil] at *; omega))) rfl ?_
       refine RQ.v .none (.sadd (.t rfl) (.t rfl) (fun _ => by first | omega | (simp only [len_app, len_cons, len_nil] at *; omega))) rfl ?_
       refine RQ.v .none (.sadd (.t rfl) .c (fun _ => by first | omega | (simp only [len_app, len_cons, len_nil] at *; omega))) rfl ?_
       refine RQ.v .none (.move (.t rfl)) rfl ?_
       refine RQ.v .none (.move (.t rfl)) rfl ?_
       refine RQ.v .none (.lenS (.t rfl) Tryz.underlying9) rfl ?_
       refine RQ.v .none (.fldA (q := ⟨b2, 5, none⟩) (.t rfl) (fun w => by kernel_rfl)) rfl ?_
       refine RQ.v .none (.loadB1 (v := (i64 n.e)) hS5 (fun _ h => h) (i := 0) rfl (.t rfl) Tryz.isAgg3 rfl) rfl ?_
       refine RQ.v .none (.add (.t rfl) (.t rfl) (fun _ => by first | omega | (simp only [len_app, len_cons, len_nil] at *; omega))) rfl ?_
       refine RQ.v .none (.slSl (.t rfl) (.t rfl) Tryz.underlying9 (fun _ => by first | omega | (simp only [len_app, len_cons, len_nil] at *; omega))) rfl ?_
       refine RQ.v .none (.sadd (.t rfl) (.t rfl) (fun _ => by first | omega | (simp only [len_app, len_cons, len_nil] at *; omega))) rfl ?_
       refine RQ.v .none (.assign (.t rfl)) rfl ?_
       refine RQ.nil (fun a hs w6 hS7 => CW.at [Y 2 (str ((([45] ++ (Eng.sub o 0 ((len o) + n.e))) ++ [46]) ++ (Eng.from' o ((len o) + n.e))))] rfl ?_ a hs)
       refine CW.ret (hE.r1 rfl rfl ?_)
       have hq : print1 n = (([45] ++ (Eng.sub o 0 ((len o) + n.e))) ++ [46]) ++ (Eng.from' o ((len o) + n.e)) := by
        have ho : o = zeros (1 - n.e - len n.s) ++ n.s := by
         rcases hl2 with h | h
         ·rw [zeros_neg (by omega)] at hF; rw [zeros_neg (by omega)]; exact hF
         ·rw [show len o - len n.s = 1 - n.e - len n.s from by omega] at hF; exact hF
        rw [ho]
        have c1 : (n.s == []) = false := by simpa using hb2
        have c2 : (decide (0 ≤ n.e) && decide (len n.s + n.e ≤ 20)) = false := by rw [Bool.and_eq_false_iff, decide_eq_false_iff_not]; left; omega
        have c3 : (decide (n.e < 0) && decide (-20 ≤ n.e)) = true := by rw [Bool.and_eq_true, decide_eq_true_eq, decide_eq_true_eq]; omega
        simp only [print1, c1, c2, c3, hb1, if_true, if_false, Bool.false_eq_true]
       rw [hq]; exact ⟨rfl, hS7.low⟩
    ·try simp only [zb] at hb5
     refine CW.skip (CW.id ?_)
     refine CW.sr ?_
     refine RL.m rfl rfl (RL.m rfl rfl (RL.u (.sadd (.t rfl) (.t rfl) (fun _ => by first | omega | (simp only [len_app, len_cons, len_nil] at *; omega))) rfl (RL.u (.sadd (.t rfl) .c (fun _ => by first | omega | (simp only [len_app, len_cons, len_nil] at *; omega))) rfl (RL.u (.fldA (q := ⟨b2, 5, none⟩) (.t rfl) (fun w => by kernel_rfl)) rfl (RL.u (.loadB1 (v := (i64 n.e)) hS3 extEq (i := 0) rfl (.t rfl) Tryz.isAgg3 rfl) rfl ?_)))))
     refine RL.callE hS3 .none Tryz.call121 (.cons (.t rfl) .nil) (fun _ => (decimal_c n.e _ (by omega))) rfl (fun w8 hS9 => ?_)
     refine RL.u (.sadd (.t rfl) (.t rfl) (fun _ => by first | omega | (simp only [len_app, len_cons, len_nil] at *; omega))) rfl (RL.a rfl rfl ?_)
     refine RL.nil (CW.at [Y 2 (str ((([45] ++ n.s) ++ [101]) ++ (Lib.itoa n.e)))] rfl ?_)
     refine CW.ret (hE.r1 rfl rfl ?_)
     clear hE
     have hq : print1 n = (([45] ++ n.s) ++ [101]) ++ (Lib.itoa n.e) := by
      unfold print1
      (try dsimp only)
      (repeat' split)
      all_goals first | rfl | (exfalso; omega) | (exfalso; simp_all; done) | (simp_all; done) | (exfalso; simp_all; omega)
     rw [hq]; exact ⟨rfl, hS9.low⟩
 ·try simp only [zb] at hb1
  refine CW.skip (CW.id ?_)
  refine CW.sr ?_
  refine RL.u (.fldA (q := ⟨b2, 3, none⟩) (.t rfl) (fun w => by kernel_rfl)) rfl (RL.u (.loadB1 (v := (str n.s)) hS3 extEq (i := 0) rfl (.t rfl) Tryz.isAgg9 rfl) rfl (RL.a rfl rfl ?_))
  refine RL.nil (CW.id ?_)
  refine CW.seq ?_
  refine CW.sr ?_
  refine RL.m rfl rfl (RL.u (.seql (.t rfl) .c) rfl ?_)
  refine RL.nil (CW.id ?_)
  refine CW.cond rfl (fun hb7 => ?_) (fun hb7 => ?_)
  ·try simp only [zb] at hb7
   refine CW.sr ?_
   refine RL.u (.assign .c) rfl ?_
   refine RL.nil (CW.id ?_)
   refine CW.ret (hE.r1 rfl rfl ?_)
   clear hE
   have hq : print1 n = [48] := by
    unfold print1
    (try dsimp only)
    (repeat' split)
    all_goals first | rfl | (exfalso; omega) | (exfalso; simp_all; done) | (simp_all; done) | (exfalso; simp_all; omega)
   rw [hq]; exact ⟨rfl, hS3.low⟩
  ·try simp only [zb] at hb7
   refine CW.skip (CW.id ?_)
   refine CW.seq ?_
   refine CW.sr ?_
   refine RL.u (.fldA (q := ⟨b2, 5, none⟩) (.t rfl) (fun w => by kernel_rfl)) rfl (RL.u (.loadB1 (v := (i64 n.e)) hS3 extEq (i := 0) rfl (.t rfl) Tryz.isAgg3 rfl) rfl (RL.u (.geq (.t rfl) .c) rfl (RL.m rfl rfl (RL.v (.pos rfl rfl) (.move (.t rfl)) rfl (RL.v (.pos rfl rfl) (.lenS (.g rfl (fun h => h)) Tryz.underlying9) rfl ?_)))))
   refine RL.v (.pos rfl rfl) (.fldA (q := ⟨b2, 5, none⟩) (.t rfl) (fun w => by kernel_rfl)) rfl (RL.v (.pos rfl rfl) (.loadB1 (v := (i64 n.e)) hS3 extEq (i := 0) rfl (.g rfl (fun h => h)) Tryz.isAgg3 rfl) rfl (RL.v (.pos rfl rfl) (.add (.g rfl (fun h => h)) (.g rfl (fun h => h)) (fun hW => by simp only [zb] at hW; first | omega | (simp only [len_app, len_cons, len_nil] at *; omega))) rfl (RL.v (.pos rfl rfl) (.leq (.g rfl (fun h => h)) .c) rfl (RL.u (.and (.t rfl) (.g rfl (fun h => h))) rfl ?_))))
   refine RL.nil (CW.id ?_)
   refine CW.cond rfl (fun hb8 => ?_) (fun hb8 => ?_)
   ·try simp only [zb] at hb8
    refine CW.seq ?_
    refine CW.sr ?_
    refine RL.u (.assign .c) rfl ?_
    refine RL.nil (CW.id ?_)
    refine CW.block ?_
    refine CW.loop (σ := Int × Str) (fun (k, o) => [Y 1 (.pointer (some ⟨b2, 0, none⟩)), Y 3 (str []), Y 4 (str o), Y 5 (i64 k)]) (fun (k, o) wl => St w (fun _ _ => none) wl (fun _ _ => none) [.box b2 (ndC n []) 38] ∧ 0 ≤ k ∧ k ≤ n.e ∧ o = n.s ++ zeros k ∧ len o = len n.s + k) (fun (k, o) => (n.e - k).toNat) ((0, n.s)) [1, 3, 4, 5] rfl ?_ ?_
    ·refine ⟨hS3, ?_⟩; exact ⟨by omega, by omega, by rw [zeros_neg (by omega)]; simp, by omega⟩
    ·rintro ⟨k, o⟩ wl ⟨hS10, h0, h1, hF, hl⟩
     refine CW.seq ?_
     refine CW.sr ?_
     refine RL.m rfl rfl (RL.u (.fldA (q := ⟨b2, 5, none⟩) (.t rfl) (fun w => by kernel_rfl)) rfl (RL.u (.loadB1 (v := (i64 n.e)) hS10 extEq (i := 0) rfl (.t rfl) Tryz.isAgg3 rfl) rfl (RL.u (.lss (.t rfl) (.t rfl)) rfl ?_)))
     refine RL.nil (CW.id ?_)
     refine CW.cond rfl (fun hb9 => ?_) (fun hb9 => ?_)
     ·try simp only [zb] at hb9
      refine CW.skip (CW.id ?_)
      refine CW.seq ?_
      refine CW.block ?_
      refine CW.region ?_
      refine RL.m rfl rfl (RL.u (.sadd (.t rfl) .c (fun _ => by first | omega | (simp only [len_app, len_cons, len_nil] at *; omega))) rfl (RL.a rfl rfl ?_))
      refine RL.nil (CW.id ?_)
      refine CW.region ?_
      refine RL.m rfl rfl (RL.u (.add (.t rfl) .c (fun _ => by first | omega | (simp only [len_app, len_cons, len_nil] at *; omega))) rfl (RL.a rfl rfl ?_))
      refine RL.nil fun a hs => Exists.intro ((k + 1, o ++ [48])) ⟨hs.keep [1, 3, 4, 5], ?_, ?_⟩
      ·refine ⟨hS10, ?_⟩
       exact ⟨by omega, by omega, by rw [hF, zeros_snoc h0]; simp, by rw [len_app, len_cons, len_nil]; omega⟩
      ·show Int.toNat _ < Int.toNat _; omega
     ·try simp only [zb] at hb9
      refine CW.exit (CW.at [Y 3 (str []), Y 4 (str o)] rfl ?_)
      refine CW.sr ?_
      refine RL.m rfl rfl (RL.m rfl rfl (RL.u (.sadd (.t rfl) (.t rfl) (fun _ => by first | omega | (simp only [len_app, len_cons, len_nil] at *; omega))) rfl (RL.a rfl rfl ?_)))
      refine RL.nil (CW.id ?_)
      refine CW.ret (hE.r1 rfl rfl ?_)
      clear hE
      have hq : print1 n = [] ++ o := by
       have ho : o = n.s ++ zeros n.e := by rw [hF, show k = n.e from by omega]
       rw [ho]
       unfold print1
       (try dsimp only)
       (repeat' split)
       all_goals first | rfl | (exfalso; simp_all; done) | (simp_all; done) | (exfalso; simp_all; omega)
      rw [hq]; exact ⟨rfl, hS10.low⟩
   ·try simp only [zb] at hb8
    refine CW.skip (CW.id ?_)
    refine CW.seq ?_
    refine CW.sr ?_
    refine RL.u (.fldA (q := ⟨b2, 5, none⟩) (.t rfl) (fun w => by kernel_rfl)) rfl (RL.u (.loadB1 (v := (i64 n.e)) hS3 extEq (i := 0) rfl (.t rfl) Tryz.isAgg3 rfl) rfl (RL.u (.lss (.t rfl) .c) rfl (RL.m rfl rfl (RL.v (.pos rfl rfl) (.fldA (q := ⟨b2, 5, none⟩) (.t rfl) (fun w => by kernel_rfl)) rfl (RL.v (.pos rfl rfl) (.loadB1 (v := (i64 n.e)) hS3 extEq (i := 0) rfl (.g rfl (fun h => h)) Tryz.isAgg3 rfl) rfl ?_)))))
    refine RL.v (.pos rfl rfl) (.geq (.g rfl (fun h => h)) .c) rfl (RL.u (.and (.t rfl) (.g rfl (fun h => h))) rfl ?_)
    refine RL.nil (CW.id ?_)
    refine CW.cond rfl (fun hb10 => ?_) (fun hb10 => ?_)
    ·try simp only [zb] at hb10
     refine CW.seq ?_
     refine CW.block ?_
     refine CW.loop (σ := Str) (fun o => [Y 1 (.pointer (some ⟨b2, 0, none⟩)), Y 3 (str []), Y 4 (str o)]) (fun o wl => St w (fun _ _ => none) wl (fun _ _ => none) [.box b2 (ndC n []) 38] ∧ o = zeros (len o - len n.s) ++ n.s ∧ len n.s ≤ len o ∧ (len o ≤ len n.s ∨ len o ≤ 1 - n.e)) (fun o => (1 - n.e - len o).toNat) n.s [1, 3, 4] rfl ?_ ?_
     ·refine ⟨hS3, ?_⟩; exact ⟨by rw [zeros_neg (by omega)]; simp, by omega, by omega⟩
     ·rintro o wl ⟨hS11, hF, hl, hl2⟩
      have hz3 := sub_bd o 0 (len o + n.e)
      have hz4 := from_bd o (len o + n.e)
      refine CW.seq ?_
      refine CW.sr ?_
      refine RL.m rfl rfl (RL.u (.lenS (.t rfl) Tryz.underlying9) rfl (RL.u (.fldA (q := ⟨b2, 5, none⟩) (.t rfl) (fun w => by kernel_rfl)) rfl (RL.u (.loadB1 (v := (i64 n.e)) hS11 extEq (i := 0) rfl (.t rfl) Tryz.isAgg3 rfl) rfl (RL.u (.sub .c (.t rfl) (fun _ => by first | omega | (simp only [len_app, len_cons, len_nil] at *; omega))) rfl (RL.u (.lss (.t rfl) (.t rfl)) rfl ?_)))))
      refine RL.nil (CW.id ?_)
      refine CW.cond rfl (fun hb11 => ?_) (fun hb11 => ?_)
      ·try simp only [zb] at hb11
       refine CW.skip (CW.id ?_)
       refine CW.block ?_
       refine CW.region ?_
       refine RL.m rfl rfl (RL.u (.sadd .c (.t rfl) (fun _ => by first | omega | (simp only [len_app, len_cons, len_nil] at *; omega))) rfl (RL.a rfl rfl ?_))
       refine RL.nil fun a hs => Exists.intro ([48] ++ o) ⟨hs.keep [1, 3, 4], ?_, ?_⟩
       ·refine ⟨hS11, ?_⟩
        exact ⟨by rw [len_app, len_cons, len_nil, show 0 + 1 + len o - len n.s = len o - len n.s + 1 from by omega, zeros_succ (by omega)]; exact congrArg (48 :: ·) hF, by rw [len_app, len_cons, len_nil]; omega, by rw [len_app, len_cons, len_nil]; omega⟩
       ·show Int.toNat _ < Int.toNat _; rw [len_app, len_cons, len_nil]; omega
      ·try simp only [zb] at hb11
       refine CW.exit (CW.at [Y 1 (.pointer (some ⟨b2, 0, none⟩)), Y 3 (str []), Y 4 (str o)] rfl ?_)
       refine CW.seq ?_
       refine CW.regionD hS11 tryz_mixed (by decide +kernel) ?_
       refine RQ.v .none (.move (.t rfl)) rfl ?_
       refine RQ.v .none (.move (.t rfl)) rfl ?_
       refine RQ.v .none (.move (.t rfl)) rfl ?_
       refine RQ.v .none (.lenS (.t rfl) Tryz.underlying9) rfl ?_
       refine RQ.v .none (.fldA (q := ⟨b2, 5, none⟩) (.t rfl) (fun w => by kernel_rfl)) rfl ?_
       refine RQ.v .none (.loadB1 (v := (i64 n.e)) hS11 (fun _ h => h) (i := 0) rfl (.t rfl) Tryz.isAgg3 rfl) rfl ?_
       refine RQ.v .none (.add (.t rfl) (.t rfl) (fun _ => by first | omega | (simp only [len_app, len_cons, len_nil] at *; omega))) rfl ?_
       refine RQ.v .none (.slSh (.t rfl) (.t rfl) Tryz.underlying9 (fun _ => by first | omega | (simp only [len_app, len_cons, len_nil] at *; omega))) rfl ?_
       refine RQ.v .none (.sadd (.t rfl) (.t rfl) (fun _ => by first | omega | (simp only [len_app, len_cons, len_nil] at *; omega))) rfl ?_
       refine RQ.v .none (.sadd (.t rfl) .c (fun _ => by first | omega | (simp only [len_app, len_cons, len_nil] at *; omega))) rfl ?_
       refine RQ.v .none (.move (.t rfl)) rfl ?_
       refine RQ.v .none (.move (.t rfl)) rfl ?_
       refine RQ.v .none (.lenS (.t rfl) Tryz.underlying9) rfl ?_
       refine RQ.v .none (.fldA (q := ⟨b2, 5, none⟩) (.t rfl) (fun w => by kernel_rfl)) rfl ?_
       refine RQ.v .none (.loadB1 (v := (i64 n.e)) hS11 (fun _ h => h) (i := 0) rfl (.t rfl) Tryz.isAgg3 rfl) rfl ?_
       refine RQ.v .none (.add (.t rfl) (.t rfl) (fun _ => by first | omega | (simp only [len_app, len_cons, len_nil] at *; omega))) rfl ?_
       refine RQ.v .none (.slSl (.t rfl) (.t rfl) Tryz.underlying9 (fun _ => by first | omega | (simp only [len_app, len_cons, len_nil] at *; omega))) rfl ?_
       refine RQ.v .none (.sadd (.t rfl) (.t rfl) (fun _ => by first | omega | (simp only [len_app, len_cons, len_nil] at *; omega))) rfl ?_
       refine RQ.v .none (.assign (.t rfl)) rfl ?_
       refine RQ.nil (fun a hs w12 hS13 => CW.at [Y 2 (str ((([] ++ (Eng.sub o 0 ((len o) + n.e))) ++ [46]) ++ (Eng.from' o ((len o) + n.e))))] rfl ?_ a hs)
       refine CW.ret (hE.r1 rfl rfl ?_)
       have hq : print1 n = (([] ++ (Eng.sub o 0 ((len o) + n.e))) ++ [46]) ++ (Eng.from' o ((len o) + n.e)) := by
        have ho : o = zeros (1 - n.e - len n.s) ++ n.s := by
         rcases hl2 with h | h
         ·rw [zeros_neg (by omega)] at hF; rw [zeros_neg (by omega)]; exact hF
         ·rw [show len o - len n.s = 1 - n.e - len n.s from by omega] at hF; exact hF
        rw [ho]
        have c1 : (n.s == []) = false := by simpa using hb7
        have c2 : (decide (0 ≤ n.e) && decide (len n.s + n.e ≤ 20)) = false := by rw [Bool.and_eq_false_iff, decide_eq_false_iff_not]; left; omega
        have c3 : (decide (n.e < 0) && decide (-20 ≤ n.e)) = true := by rw [Bool.and_eq_true, decide_eq_true_eq, decide_eq_true_eq]; omega
        simp only [print1, c1, c2, c3, hb1, if_true, if_false, Bool.false_eq_true]
       rw [hq]; exact ⟨rfl, hS13.low⟩
    ·try simp only [zb] at hb10
     refine CW.skip (CW.id ?_)
     refine CW.sr ?_
     refine RL.m rfl rfl (RL.m rfl rfl (RL.u (.sadd (.t rfl) (.t rfl) (fun _ => by first | omega | (simp only [len_app, len_cons, len_nil] at *; omega))) rfl (RL.u (.sadd (.t rfl) .c (fun _ => by first | omega | (simp only [len_app, len_cons, len_nil] at *; omega))) rfl (RL.u (.fldA (q := ⟨b2, 5, none⟩) (.t rfl) (fun w => by kernel_rfl)) rfl (RL.u (.loadB1 (v := (i64 n.e)) hS3 extEq (i := 0) rfl (.t rfl) Tryz.isAgg3 rfl) rfl ?_)))))
     refine RL.callE hS3 .none Tryz.call121 (.cons (.t rfl) .nil) (fun _ => (decimal_c n.e _ (by omega))) rfl (fun w14 hS15 => ?_)
     refine RL.u (.sadd (.t rfl) (.t rfl) (fun _ => by first | omega | (simp only [len_app, len_cons, len_nil] at *; omega))) rfl (RL.a rfl rfl ?_)
     refine RL.nil (CW.at [Y 2 (str ((([] ++ n.s) ++ [101]) ++ (Lib.itoa n.e)))] rfl ?_)
     refine CW.ret (hE.r1 rfl rfl ?_)
     clear hE
     have hq : print1 n = (([] ++ n.s) ++ [101]) ++ (Lib.itoa n.e) := by
      unfold print1
      (try dsimp only)
      (repeat' split)
      all_goals first | rfl | (exfalso; omega) | (exfalso; simp_all; done) | (simp_all; done) | (exfalso; simp_all; omega)
     rw [hq]; exact ⟨rfl, hS15.low⟩

end Go.Proofs.YtjfaikgooldcbaaGreatDoor
namespace Go.Eng
open Go.RowKit
theorem wpOpsS_of_wpList {P : Program} {ops : Array Oper} {Q : Exit → Act → List Frame → World → Prop} {cs : List Frame} (hq : ¬ LetsOut (fun e a w => Q e a cs w)) (l : List Oper) :
    ∀ (k : Nat), (∀ j, l[j]? = ops[k + j]?) → ∀ a w, wpList P ops (fun e a w => Q e a cs w) l a w → wpOpsS P ops Q (List.range' k l.length) a cs w := by
  induction l with
  | nil => intro k _ a w h; exact h
  | cons o l ih =>
    intro k hk a w h
    have h0 : ops[k]? = some o := by simpa using (hk 0).symm
    have ih' := ih (k + 1) (fun j => by have := hk (j + 1); simpa [Nat.add_assoc, Nat.add_comm 1 j] using this)
    simp only [List.length_cons, List.range'_succ, wpOpsS, h0]
    unfold wpList at h
    by_cases hw : Region.wanted o (yielded ops a.tmps) = true
    · rw [if_pos hw] at h ⊢
      have h1 := (h.resolve_right fun hh => hq hh.2)
      have h2 := Oper.wp_mono (fun a' w' hh => ih' a' w' hh) h1
      unfold Oper.wp at h2
      split
      · rename_i w' he; rw [he] at h2; exact h2.elim
      · exact h2
    · rw [if_neg hw] at h ⊢
      exact ih' _ _ h
/-- A region that begins with recover. -/
theorem wpS_recovers {P : Program} {Q : Exit → Act → List Frame → World → Prop} {cs cs' : List Frame} {id : Nat} {o0 : Oper} {l : List Oper} {a : Act} {w : World} {v : Value} (hg : o0.guard = none) (hrun : (execOp a.eval o0).run P w = .ok .recover w)
    (hrec : recoverD cs = some (v, cs') ∨ (recoverD cs = none ∧ v = .nilIface ∧ cs' = cs)) (hq : ¬ LetsOut (fun e a w => Q e a cs' w)) (h : wpList P (o0 :: l).toArray (fun e a w => Q e a cs' w) l (a.put o0.dst v) w) :
    (Code.region id (o0 :: l).toArray false).wpS P Q a cs w := by
  refine wpS_region ?_
  have hw : Region.wanted o0 (yielded (o0 :: l).toArray a.tmps) = true := by unfold Region.wanted; rw [hg]
  have h1 := wpOpsS_of_wpList (ops := (o0 :: l).toArray) hq l 1 (fun j => by simp [Nat.add_comm 1 j]) _ _ h
  rw [show List.range (o0 :: l).toArray.size = 0 :: List.range' 1 l.length from by simp [List.range_eq_range', List.range'_succ]]
  unfold wpOpsS
  rw [show (o0 :: l).toArray[0]? = some o0 from by simp]
  dsimp only
  rw [if_pos hw, hrun]
  dsimp only
  rcases hrec with hr | ⟨hr, rfl, rfl⟩
  · rw [hr]; exact h1
  · rw [hr]; exact h1
section
variable {P : Program} {C : World → Prop} {L : Env} {W : Bool} {d : Option Tmp} {ty : TypeId} {ps : String} {af : Array Edge} {gd : Option (Nat × Bool)}
theorem PV.asserts {xt t : TypeId} {x : Operand} {v : Value} {fs : Array Field} (hx : Opd L W x (.iface t v)) (ht : P.underlying t = some (.struct fs)) : PV P C L W ⟨d, .typeAssert x xt t true, ty, ps, af, gd⟩ (.tuple #[v, .bool true]) :=
  .un (f := fun u => Instr.typeAssert u xt t true) (fun _ => rfl) hx fun _ w _ => by
    simp only [Instr.typeAssert, Sem.run_bind, run_underlying ht, Result.andThen_ok]
    simp [Sem.run_pure]
theorem PV.assertsNo {xt t : TypeId} {x : Operand} {z : Value} {fs : Array Field} (hx : Opd L W x .nilIface) (ht : P.underlying t = some (.struct fs)) (hz : ∀ w, (zeroValue t).run P w = .ok z w) : PV P C L W ⟨d, .typeAssert x xt t true, ty, ps, af, gd⟩ (.tuple #[z, .bool false]) :=
  .un (f := fun u => Instr.typeAssert u xt t true) (fun _ => rfl) hx fun _ w _ => by
    simp only [Instr.typeAssert, Sem.run_bind, run_underlying ht, Result.andThen_ok]
    simp [Sem.run_bind, Sem.run_pure, hz]
end
/-- What recover finds in a frame of this mode, and how it leaves it. -/
def recMode : FrameMode → Value × FrameMode
  | .panicking ({ v, recovered := false, goexit := false } :: older) => (v, .panicking ({ v, recovered := true } :: older))
  | u => (.nilIface, u)
theorem recoverD_mode (c : Frame) (cs : List Frame) : recoverD (c :: cs) = some ((recMode c.mode).1, { c with mode := (recMode c.mode).2 } :: cs) ∨ (recoverD (c :: cs) = none ∧ (recMode c.mode).1 = .nilIface ∧ { c with mode := (recMode c.mode).2 } :: cs = c :: cs) := by
  obtain ⟨_, _, _, _, m, _, _⟩ := c
  cases m with
  | panicking ch =>
    cases ch with
    | nil => exact .inr ⟨rfl, rfl, rfl⟩
    | cons p older =>
      obtain ⟨v, r, g⟩ := p
      cases r <;> cases g <;> first | exact .inl rfl | exact .inr ⟨rfl, rfl, rfl⟩
  | _ => exact .inr ⟨rfl, rfl, rfl⟩
/-- A deferred closure without results, whose body begins with recover. -/
theorem enterS {P : Program} {f : FuncId} {fn : Func} {id d N : Nat} {o0 : Oper} {l : List Oper} {y : Code} {vs : List Value} {u : FrameMode} {w : World} {S : World → Prop} (hf : P.funcs[f]? = some fn) (hb : fn.body = some (.seq (.region id (o0 :: l).toArray false) y)) (hn : fn.ntmps = N) (hl : vs.length ≤ N)
    (hres : fn.results = #[]) (hg : o0.guard = none) (hd : o0.dst = some d) (hdN : Nat.blt d N = true) (hrun : ∀ (a : Act) w, (execOp a.eval o0).run P w = .ok .recover w)
    (h : ∀ (K : Act → World → Prop) (Q : Exit → Act → World → Prop), (∀ a w', y.wp P Q a w' → K a w') → (∀ a w', a.defers = [] → S w' → Q .normal a w') → RL P (o0 :: l).toArray (Exit.then K Q) N l ((d, true, (recMode u).1) :: envOf 0 vs) w) :
    CallsD P f vs.toArray u w (fun e u' w' => e = .returned (.tuple #[]) ∧ u' = (recMode u).2 ∧ S w') := by
  refine callsD_of_wpS hf hb fun c₀ cs hu => wpS_seq ?_
  subst hu
  have hs := Slots.enter vs N hl
  rw [← hn] at hs
  refine wpS_recovers hg (hrun _ _) (recoverD_mode c₀ cs) ?_ ?_
  · rintro ⟨a, w', h1⟩
    obtain ⟨u', h2, _⟩ := h1
    cases h2
  · subst hn
    have hput := hs.put hdN true (recMode c₀.mode).1
    rw [hd]
    have hh := h (fun a w' => y.wpS P (bodyPostS P fn c₀ cs (fun e u' w' => e = .returned (.tuple #[]) ∧ u' = (recMode c₀.mode).2 ∧ S w')) a ({ c₀ with mode := (recMode c₀.mode).2 } :: cs) w')
      (fun e a w' => bodyPostS P fn c₀ cs (fun e u' w' => e = .returned (.tuple #[]) ∧ u' = (recMode c₀.mode).2 ∧ S w') e a ({ c₀ with mode := (recMode c₀.mode).2 } :: cs) w')
      (fun a w' h1 => wpS_of_wp h1) (fun a w' h1 h2 => ⟨h1, _, rfl, _, results_none hres _ _ _, rfl, rfl, h2⟩) _ hput
    refine Eq.mp ?_ hh
    congr 1
    funext e a w'
    cases e <;> rfl
end Go.Eng
namespace Go.Eng
open Go.RowKit
/-- With these deferred calls besides. -/
def appD (D : List Deferred) (a : Act) : Act := ⟨a.tmps, a.defers ++ D⟩
theorem appD_eval (D : List Deferred) (a : Act) : (appD D a).eval = a.eval := by funext x; cases x <;> rfl
theorem appD_put (D : List Deferred) (a : Act) (d : Option Tmp) (v : Value) : (appD D a).put d v = appD D (a.put d v) := by cases d <;> rfl
section
variable {P : Program} {ops : Array Oper} {D : List Deferred} {Q : Exit → Act → World → Prop} {N : Nat} {L : Env} {w : World}
theorem upon_app {o : Oper} {a : Act} {n n' : Act → World → Prop} (hn : ∀ a w, n' a w → n (appD D a) w) (r : Result Next) (h : o.upon P a n' (fun e a w => Q e (appD D a) w) r) : o.upon P (appD D a) n Q r := by
  cases r with
  | ok x w' =>
    cases x with
    | value v => rw [Oper.upon_value] at h ⊢; rw [appD_put]; exact hn _ _ h
    | skip => rw [Oper.upon_skip] at h ⊢; rw [appD_put]; exact hn _ _ h
    | defer d =>
      rw [Oper.upon_defer] at h ⊢
      have e : ({ appD D a with defers := d :: (appD D a).defers } : Act) = appD D { a with defers := d :: a.defers } := rfl
      rw [e, appD_put]; exact hn _ _ h
    | enter f args =>
      rw [Oper.upon_enter] at h ⊢
      refine h.mono fun e w'' he => ?_
      cases e with
      | returned v => dsimp only at he ⊢; rw [appD_put]; exact hn _ _ he
      | panicked ch => exact he
      | outgrown => obtain ⟨a2, w2, h2⟩ := he; exact ⟨_, _, h2⟩
    | row r args =>
      rw [Oper.upon_row] at h ⊢
      exact Rows.mono h fun v w'' he => by rw [appD_put]; exact hn _ _ he
    | _ => exact h.elim
  | halt x w' =>
    cases x with
    | panic v => exact h
    | _ => exact h.elim
theorem wpList_app (l : List Oper) : ∀ (a : Act) (w : World), wpList P ops (fun e a w => Q e (appD D a) w) l a w → wpList P ops Q l (appD D a) w := by
  induction l with
  | nil => intro a w h; exact h
  | cons o l ih =>
    intro a w h
    unfold wpList at h ⊢
    show if Region.wanted o (yielded ops a.tmps) = true then _ else _
    by_cases hw : Region.wanted o (yielded ops a.tmps) = true
    · rw [if_pos hw] at h ⊢
      rcases h with h | ⟨ha, a2, w2, h2⟩
      · left
        unfold Oper.wp at h ⊢
        rw [appD_eval]
        exact upon_app ih _ h
      · right
        refine ⟨?_, _, _, h2⟩
        unfold Oper.asks at ha ⊢
        rw [appD_eval]; exact ha
    · rw [if_neg hw] at h ⊢
      rw [appD_put]; exact ih _ _ h
/-- As CW, with these deferred calls besides. -/
def CWD (P : Program) (D : List Deferred) (c : Code) (Q : Exit → Act → World → Prop) (N : Nat) (L : Env) (w : World) : Prop := ∀ a, Slots a N L → c.wp P Q (appD D a) w
theorem CWD.seq {x y : Code} (h : CWD P D x (Exit.then (y.wp P Q) Q) N L w) : CWD P D (.seq x y) Q N L w := fun a hs => wp_seq (h a hs)
theorem CWD.region {id : Nat} {l : List Oper} (h : RL P l.toArray (fun e a w => Q e (appD D a) w) N l L w) : CWD P D (.region id l.toArray false) Q N L w := fun a hs => wp_region_lit (wpList_app _ _ _ (h a hs))
theorem CWD.sr {id : Nat} {l : List Oper} {y : Code} (h : RL P l.toArray (fun e a w => Exit.then (y.wp P Q) Q e (appD D a) w) N l L w) : CWD P D (.seq (.region id l.toArray false) y) Q N L w := CWD.seq (CWD.region h)
theorem CWD.cond {c : Nat} {x y : Code} {b : Bool} (hc : look L c = some (true, .bool b)) (ht : b = true → CWD P D x Q N L w) (hf : b = false → CWD P D y Q N L w) : CWD P D (.cond (.tmp c) x y) Q N L w :=
  fun a hs => wp_cond_split (show (appD D a).eval (.tmp c) = .bool b from by rw [appD_eval]; exact hs.get hc) (fun hb => ht hb a hs) (fun hb => hf hb a hs)
theorem CWD.skip (h : ∀ a, Slots a N L → Q .normal (appD D a) w) : CWD P D .skip Q N L w := fun a hs => wp_skip (h a hs)
theorem CWD.ret (h : ∀ a, Slots a N L → Q .ret (appD D a) w) : CWD P D .ret Q N L w := fun a hs => wp_ret (h a hs)
theorem CWD.id {y : Code} {Q' : Exit → Act → World → Prop} (h : CWD P D y Q' N L w) : ∀ a, Slots a N L → y.wp P Q' (appD D a) w := h
theorem CWD.at {y : Code} {Q' : Exit → Act → World → Prop} (L' : Env) (hk : Eng.keep (keysOf L') L = L') (h : CWD P D y Q' N L' w) : ∀ a, Slots a N L → y.wp P Q' (appD D a) w := fun a hs => h a (hk ▸ hs.keep _)
/-- The ends of a body that defers. -/
structure EndsD (P : Program) (fn : Func) (R : Ending → World → Prop) (Q : Exit → Act → World → Prop) : Prop where
  all : ∀ e a w, bodyPostD P fn R e a w → Q e a w
theorem CWD.enter {f : FuncId} {fn : Func} {c : Code} {vs : List Value} {R : Ending → World → Prop} (hf : P.funcs[f]? = some fn) (hb : fn.body = some c) (hn : fn.ntmps = N) (hl : vs.length ≤ N)
    (h : ∀ Q, EndsD P fn R Q → CW P c Q N (envOf 0 vs) w) : Calls P f vs.toArray w R :=
  calls_of_wp_defers hf hb (by rw [hn]; exact h _ ⟨fun _ _ _ h => h⟩ _ (Slots.enter vs N hl))
theorem EndsD.p {fn : Func} {R : Ending → World → Prop} {ch : List PanicEntry} (E : EndsD P fn R Q) (h : ∀ a, Slots a N L → Leaves P fn a.tmps R D (.panicking ch) w) : ∀ a, Slots a N L → Q (.panic ch) (appD D a) w :=
  fun a hs => E.all _ _ _ (by show Leaves P fn a.tmps R (a.defers ++ D) _ w; rw [hs.dfr]; exact h a hs)
theorem EndsD.r {fn : Func} {R : Ending → World → Prop} (E : EndsD P fn R Q) (h : ∀ a, Slots a N L → Leaves P fn a.tmps R D .returning w) : ∀ a, Slots a N L → Q .ret (appD D a) w :=
  fun a hs => E.all _ _ _ (by show Leaves P fn a.tmps R (a.defers ++ D) _ w; rw [hs.dfr]; exact h a hs)
/-- The defer of a closure, last in its region. -/
theorem RL.defer {f : FuncId} {x : Operand} {cs : List Value} {tys : Array TypeId} {ty : TypeId} {ps : String} {af : Array Edge} (hx : Opd L true x (.func (.func f) #[] cs.toArray)) (h : RL P ops (fun e a w => Q e (appD [{ target := .fn (.func f) cs.toArray, args := #[] }] a) w) N [] L w) :
    RL P ops Q N [⟨none, .defer ⟨.value x, #[], tys⟩, ty, ps, af, none⟩] L w := by
  intro a hs
  refine wpList_plain rfl fun K hK => ?_
  have key : (execOp a.eval ⟨none, .defer ⟨.value x, #[], tys⟩, ty, ps, af, none⟩).run P w = .ok (.defer { target := .fn (.func f) cs.toArray, args := #[] }) w := by
    simp only [execOp, resolve, hx a N hs rfl, Deferred.ofValue, Sem.run_bind, Sem.run_pure, Result.andThen_ok]
    simp
  simp only [Oper.wp, key, Oper.upon_defer]
  have h1 := h a hs
  refine hK _ _ ?_
  show Q .normal (Act.put { a with defers := _ :: a.defers } none undef) w
  rw [hs.dfr]
  have h2 : Q .normal (appD [{ target := .fn (.func f) cs.toArray, args := #[] }] a) w := h1
  unfold appD at h2
  rw [hs.dfr] at h2
  exact h2
/-- One deferred closure, that comes back: the frame leaves in the mode in which it left it. -/
theorem leaves_one {fn : Func} {R : Ending → World → Prop} {f : FuncId} {tmps : Array Value} {cs : List Value} {u : FrameMode} {S : World → Prop} (ct : ∀ args w, (callFunc f args).run P w = .ok (.enter f args) w) (hu : u ≠ .run) (hm : settle (recMode u).2 = .returning)
    (hc : CallsD P f cs.toArray u w (fun e u' w' => e = .returned (.tuple #[]) ∧ u' = (recMode u).2 ∧ S w')) (h : ∀ w', S w' → ∃ v, (results fn tmps).run P w' = .ok v w' ∧ R (.returned v) w') :
    Leaves P fn tmps R [{ target := .fn (.func f) cs.toArray, args := #[] }] u w := by
  refine leaves_cons hu (args := cs.toArray) (f := f) (by simp [invoke, go_sem, ct]) (hc.mono ?_)
  rintro e u' w' ⟨rfl, rfl, hS⟩
  show Leaves P fn tmps R [] (settle (recMode u).2) w'
  rw [hm]
  exact h w' hS
theorem res3 {fn : Func} {r s t : ResultVar} {v u x : Value} {a : Act} (hr : fn.results = #[r, s, t]) (hs : Slots a N L) (h1 : RV P L w r v) (h2 : RV P L w s u) (h3 : RV P L w t x) : (results fn a.tmps).run P w = .ok (.tuple #[v, u, x]) w := by
  rw [results_eq, hr]
  simp [List.mapM_cons, Sem.run_bind, h1.run hs, h2.run hs, h3.run hs]
end
end Go.Eng
namespace Go.Proofs.YtjfaikgooldcbaaGreatDoor
open Go.Eng

end Go.Proofs.YtjfaikgooldcbaaGreatDoor
