import Derived.Test.YthdialbnlnjgpaaGreatDoorEngL
import Derived.Laws.BitsLemmas
import Derived.Test.YthdialbnlnjgpaaGreatDoorPure
import Derived.Test.YthdialbnlnjgpaaGreatDoorProg
import Derived.Test.YthdialbnlnjgpaaGreatDoorP5
set_option linter.unusedVariables false
set_option linter.unusedSimpArgs false
namespace Go.Proofs.YthdialbnlnjgpaaGreatDoor
open Go.Eng

theorem acc_len {l : List Int} {r i n : Int} (h : len l ≤ 4 * i) (hn : 1 ≤ n) : len (l ++ encZ r) ≤ 4 * (i + n) := by
  have := Lib.encodeRuneZ_length r
  rw [len_app]
  have hz : len (encZ r) ≤ 4 := by unfold len encZ; omega
  omega
theorem ints_enc {l : List Int} (r : Int) (h : ints (toStr l) = l) : ints (toStr (l ++ encZ r)) = l ++ encZ r := by
  have h2 : ints (toStr (encZ r)) = encZ r := by
    unfold ints toStr
    rw [List.map_map]
    conv => rhs; rw [← List.map_id (encZ r)]
    apply List.map_congr_left
    intro x hx
    have := Lib.encodeRuneZ_byte r x hx
    simp; omega
  rw [show toStr (l ++ encZ r) = toStr l ++ toStr (encZ r) from List.map_append, ints_app, h, h2]
/- loupe/quote.Unquote -/
set_option maxRecDepth 100000 in
theorem unquote_c (s : Str) (w : World) (hg : Gl w) (hb : len s ≤ 1099511627776) :
  Calls Tryz.prog 30 [(str s)].toArray w fun e w' => e = .returned (.tuple #[(str ((unqP s).1)), (i64 ((unqP s).2.1)), (i64 ((unqP s).2.2))]) ∧ Ext w w' := by
 refine CW.enter Tryz.func30 rfl Tryz.ntmps30 (Nat.le_of_ble_eq_true rfl) ?_
 have := len_nonneg s
 have hS : St w (fun _ _ => none) w (fun _ _ => none) [] := St.start ⟨fun _ _ _ h => by cases h⟩
 refine CW.weaken [0] (L' := [Y 0 (str s)]) ?_ rfl
 refine CW.sr ?_
 refine RL.u (.assign .c) rfl (RL.u (.assign .c) rfl (RL.u (.assign .c) rfl ?_))
 refine RL.nil (CW.at [Y 0 (str s)] rfl ?_)
 refine CW.seq ?_
 refine CW.sr ?_
 refine RL.m rfl rfl ?_
 refine RL.callS .none Tryz.call29 (.cons (.t rfl) (.cons .c .nil)) (fun _ => (hasPrefix_c (s) ([34]) _)) rfl ?_
 refine RL.u (.not (.t rfl)) rfl ?_
 refine RL.nil (CW.at [Y 0 (str s), Y 12 (.bool (!(Lib.hasPrefix (s) ([34]))))] rfl ?_)
 refine CW.cond rfl (fun hb1 => ?_) (fun hb1 => ?_)
 ·try simp only [zb] at hb1
  refine CW.sr ?_
  refine RL.u (.assign .c) rfl (RL.u (.assign .c) rfl (RL.u (.assign .c) rfl ?_))
  refine RL.nil (CW.at [Y 2 (str []), Y 3 (i64 0), Y 4 (i64 1)] rfl ?_)
  refine CW.ret (ret3 (P := Tryz.prog) (fn := Tryz.f30) (R := fun e w' => e = .returned (.tuple #[(str ((unqP s).1)), (i64 ((unqP s).2.1)), (i64 ((unqP s).2.2))]) ∧ Ext w w') rfl rfl rfl rfl ?_)
  have hq : unqP s = ([], 0, 1) := by unfold unqP; rw [if_neg (by rw [hb1]; simp)]
  rw [hq]; exact ⟨rfl, hS.low⟩
 ·try simp only [zb] at hb1
  refine CW.skip (CW.at [Y 0 (str s)] rfl ?_)
  refine CW.sr ?_
  refine RL.alloc hS Tryz.zeroValue85 rfl (fun w1 b2 hS3 => ?_)
  replace hS3 : St w (fun _ _ => none) w1 (fun _ _ => none) [.box b2 [(.pointer none), (.slice none 0 0)] 85] := hS3
  have hS4 := hS3.ownNil 5 1
  replace hS4 : St w (fun _ _ => none) w1 (fun _ _ => none) [.own 5 1 (.slice none 0 0) (([] : List Int)).length ((([] : List Int)).flatMap u8I), .box b2 [(.pointer none), (.slice none 0 0)] 85] := hS4
  refine RL.nil (CW.at [Y 0 (str s), Y 5 (.pointer (some ⟨b2, 0, none⟩))] rfl ?_)
  refine CW.seq ?_
  refine CW.sr ?_
  refine RL.u (.assign .c) rfl ?_
  refine RL.nil (CW.at [Y 0 (str s), Y 5 (.pointer (some ⟨b2, 0, none⟩)), Y 6 (i64 1)] rfl ?_)
  refine CW.block ?_
  refine CW.loop (σ := Nat × Int × Value × Value × List Int × Mem) (fun (f, i, av, vl, ll, Ml) => [Y 0 (str s), Y 5 (.pointer (some ⟨b2, 0, none⟩)), Y 6 (i64 i)]) (fun (f, i, av, vl, ll, Ml) wl => St w (fun _ _ => none) wl Ml [.own 5 1 (vl) (ll).length ((ll).flatMap u8I), .box b2 [(av), (vl)] 85] ∧ 1 ≤ i ∧ (av = .pointer none ∨ av = selfP b2) ∧ unqGo f s i ll = unqP s ∧ len ll ≤ 4 * i ∧ (len s - i).toNat ≤ f ∧ ints (toStr ll) = ll) (fun (f, i, av, vl, ll, Ml) => (len s - i).toNat) ((s.length, 1, .pointer none, .slice none 0 0, [], (fun _ _ => none))) [0, 5, 6] rfl ?_ ?_
  ·refine ⟨hS4, ?_⟩; exact ⟨by omega, .inl rfl, by unfold unqP; rw [if_pos hb1], by decide, by unfold len; omega, rfl⟩
  ·rintro ⟨f, i, av, vl, ll, Ml⟩ wl ⟨hS5, h0, hav, hF, hlen, hf, hB⟩
   have hrl := rlen_pos (from' s i) 0 (by omega)
   have hrb := runeAt_bd (from' s i) 0
   have heb := escP_bd (from' s i)
   have hln := len_nonneg ll
   refine CW.seq ?_
   refine CW.sr ?_
   refine RL.m rfl rfl (RL.m rfl rfl (RL.u (.lenS (.t rfl) Tryz.underlying9) rfl (RL.u (.lss (.t rfl) (.t rfl)) rfl ?_)))
   refine RL.nil (CW.at [Y 0 (str s), Y 5 (.pointer (some ⟨b2, 0, none⟩)), Y 6 (i64 i), Y 16 (.bool (decide ((i) < (len (s)))))] rfl ?_)
   refine CW.cond rfl (fun hb2 => ?_) (fun hb2 => ?_)
   ·try simp only [zb] at hb2
    refine CW.skip (CW.at [Y 0 (str s), Y 5 (.pointer (some ⟨b2, 0, none⟩)), Y 6 (i64 i)] rfl ?_)
    refine CW.block ?_
    refine CW.sr ?_
    refine RL.m rfl rfl (RL.m rfl rfl (RL.u (.slSl (.t rfl) (.t rfl) Tryz.underlying9 (fun _ => by first | omega | (have hrl2 := hrl (by rw [from_len _ _ (by omega) (by omega)]; omega); rw [from_len _ _ (by omega) (by omega)] at hrl2; omega))) rfl ?_))
    refine RL.callE hS5 .none Tryz.call55 (.cons (.t rfl) .nil) (fun _ => (decodeRune_c (Eng.from' (s) (i)) _ (hg.low hS5.low) (by rw [from_len _ _ (by omega) (by omega)]; omega))) rfl (fun w6 hS7 => ?_)
    refine RL.m rfl rfl (RL.u (.ex (.t rfl) rfl) rfl (RL.u (.ex (.t rfl) rfl) rfl (RL.a rfl rfl (RL.a rfl rfl ?_))))
    refine RL.nil (CW.at [Y 0 (str s), Y 5 (.pointer (some ⟨b2, 0, none⟩)), Y 6 (i64 i), Y 7 (.int .i32 (runeAt (Eng.from' (s) (i)) 0)), Y 8 (i64 (runeLen (Eng.from' (s) (i)) 0))] rfl ?_)
    refine CW.sr ?_
    refine RL.m rfl rfl (RL.u (.eql (.t rfl) .c) rfl (RL.m rfl rfl (RL.v (.pos rfl rfl) (.move (.t rfl)) rfl (RL.v (.pos rfl rfl) (.eql (.g rfl (fun h => h)) .c) rfl (RL.u (.and (.t rfl) (.g rfl (fun h => h))) rfl ?_)))))
    refine RL.a rfl rfl ?_
    refine RL.nil (CW.at [Y 0 (str s), Y 5 (.pointer (some ⟨b2, 0, none⟩)), Y 6 (i64 i), Y 7 (.int .i32 (runeAt (Eng.from' (s) (i)) 0)), Y 8 (i64 (runeLen (Eng.from' (s) (i)) 0)), Y 9 (.bool (((runeAt (Eng.from' (s) (i)) 0) == (65533)) && ((runeLen (Eng.from' (s) (i)) 0) == (1))))] rfl ?_)
    refine CW.seq ?_
    refine CW.block ?_
    refine CW.sr ?_
    refine RL.m rfl rfl (RL.u (.eql (.t rfl) .c) rfl (RL.a rfl rfl ?_))
    refine RL.nil (CW.at [Y 0 (str s), Y 5 (.pointer (some ⟨b2, 0, none⟩)), Y 6 (i64 i), Y 7 (.int .i32 (runeAt (Eng.from' (s) (i)) 0)), Y 8 (i64 (runeLen (Eng.from' (s) (i)) 0)), Y 9 (.bool (((runeAt (Eng.from' (s) (i)) 0) == (65533)) && ((runeLen (Eng.from' (s) (i)) 0) == (1)))), Y 30 (.bool ((runeAt (Eng.from' (s) (i)) 0) == (34)))] rfl ?_)
    refine CW.cond rfl (fun hb3 => ?_) (fun hb3 => ?_)
    ·try simp only [zb] at hb3
     refine CW.sr ?_
     replace hS7 : St w (fun _ _ => none) w6 Ml [.own 5 1 (vl) (ll).length ((ll).flatMap u8I), .box b2 [(av), (vl)] 85] := hS7.front 0 rfl rfl
     replace hS7 : St w (fun _ _ => none) w6 Ml [.box b2 [(av), (vl)] 85, .own 5 1 (vl) (ll).length ((ll).flatMap u8I)] := hS7.front 1 rfl rfl
     refine RL.callP Tryz.call47 (.cons (.t rfl) .nil) (string_c (Rs := []) b2 ((av)) (vl) (toStr ll) (ll) hS7 (by first | assumption | exact Or.inr rfl | exact Or.inl rfl) (hB.symm)) rfl ?_
     rintro _ w8 ⟨rfl, hE9⟩
     have hS10 : St w (fun _ _ => none) w8 (fun _ _ => none) [] := (St.start ⟨fun _ _ _ h => by cases h⟩).ext hE9
     refine RL.m rfl rfl (RL.u (.add (.t rfl) .c (fun _ => by first | omega | (have hrl2 := hrl (by rw [from_len _ _ (by omega) (by omega)]; omega); rw [from_len _ _ (by omega) (by omega)] at hrl2; omega))) rfl (RL.a rfl rfl (RL.a rfl rfl (RL.u (.assign .c) rfl ?_))))
     refine RL.nil (CW.at [Y 2 (str (toStr ll)), Y 3 (i64 ((i) + (1))), Y 4 (i64 0)] rfl ?_)
     refine CW.ret (ret3 (P := Tryz.prog) (fn := Tryz.f30) (R := fun e w' => e = .returned (.tuple #[(str ((unqP s).1)), (i64 ((unqP s).2.1)), (i64 ((unqP s).2.2))]) ∧ Ext w w') rfl rfl rfl rfl ?_)
     have hq : unqP s = (toStr ll, (i) + (1), 0) := by rw [← hF, unqGo_eq hf hb2, if_pos hb3]
     rw [hq]; exact ⟨rfl, hS10.low⟩
    ·try simp only [zb] at hb3
     refine CW.sr ?_
     refine RL.m rfl rfl (RL.u (.eql (.t rfl) .c) rfl (RL.a rfl rfl ?_))
     refine RL.nil (CW.at [Y 0 (str s), Y 5 (.pointer (some ⟨b2, 0, none⟩)), Y 6 (i64 i), Y 7 (.int .i32 (runeAt (Eng.from' (s) (i)) 0)), Y 8 (i64 (runeLen (Eng.from' (s) (i)) 0)), Y 9 (.bool (((runeAt (Eng.from' (s) (i)) 0) == (65533)) && ((runeLen (Eng.from' (s) (i)) 0) == (1)))), Y 36 (.bool ((runeAt (Eng.from' (s) (i)) 0) == (92)))] rfl ?_)
     refine CW.cond rfl (fun hb4 => ?_) (fun hb4 => ?_)
     ·try simp only [zb] at hb4
      refine CW.sr ?_
      refine RL.m rfl rfl (RL.m rfl rfl (RL.u (.slSl (.t rfl) (.t rfl) Tryz.underlying9 (fun _ => by first | omega | (have hrl2 := hrl (by rw [from_len _ _ (by omega) (by omega)]; omega); rw [from_len _ _ (by omega) (by omega)] at hrl2; omega))) rfl ?_))
      refine RL.callE hS7 .none Tryz.call58 (.cons (.t rfl) .nil) (fun _ => (escape_c (Eng.from' (s) (i)) _ (hg.low hS7.low) (by first | omega | exact Int.le_trans (from_bd _ _).2 (by omega)))) rfl (fun w11 hS12 => ?_)
      refine RL.m rfl rfl (RL.u (.ex (.t rfl) rfl) rfl (RL.u (.ex (.t rfl) rfl) rfl (RL.a rfl rfl (RL.a rfl rfl ?_))))
      refine RL.nil (CW.at [Y 0 (str s), Y 5 (.pointer (some ⟨b2, 0, none⟩)), Y 6 (i64 i), Y 7 (.int .i32 ((escP (Eng.from' (s) (i))).1)), Y 8 (i64 ((escP (Eng.from' (s) (i))).2))] rfl ?_)
      refine CW.region ?_
      refine RL.m rfl rfl (RL.u (.eql (.t rfl) .c) rfl (RL.a rfl rfl ?_))
      refine RL.nil (CW.at [Y 0 (str s), Y 5 (.pointer (some ⟨b2, 0, none⟩)), Y 6 (i64 i), Y 7 (.int .i32 ((escP (Eng.from' (s) (i))).1)), Y 8 (i64 ((escP (Eng.from' (s) (i))).2)), Y 9 (.bool (((escP (Eng.from' (s) (i))).2) == (0)))] rfl ?_)
      refine CW.seq ?_
      refine CW.sr ?_
      refine RL.m rfl rfl ?_
      refine RL.nil (CW.at [Y 0 (str s), Y 5 (.pointer (some ⟨b2, 0, none⟩)), Y 6 (i64 i), Y 7 (.int .i32 ((escP (Eng.from' (s) (i))).1)), Y 8 (i64 ((escP (Eng.from' (s) (i))).2)), Y 51 (.bool (((escP (Eng.from' (s) (i))).2) == (0)))] rfl ?_)
      refine CW.cond rfl (fun hb5 => ?_) (fun hb5 => ?_)
      ·try simp only [zb] at hb5
       refine CW.sr ?_
       refine RL.m rfl rfl (RL.u (.assign .c) rfl (RL.a rfl rfl (RL.u (.assign .c) rfl ?_)))
       refine RL.nil (CW.at [Y 2 (str []), Y 3 (i64 i), Y 4 (i64 1)] rfl ?_)
       refine CW.ret (ret3 (P := Tryz.prog) (fn := Tryz.f30) (R := fun e w' => e = .returned (.tuple #[(str ((unqP s).1)), (i64 ((unqP s).2.1)), (i64 ((unqP s).2.2))]) ∧ Ext w w') rfl rfl rfl rfl ?_)
       have hq : unqP s = ([], i, 1) := by rw [← hF, unqGo_eq hf hb2, if_neg hb3, if_pos hb4, if_pos hb5]
       rw [hq]; exact ⟨rfl, hS12.low⟩
      ·try simp only [zb] at hb5
       refine CW.skip (CW.at [Y 0 (str s), Y 5 (.pointer (some ⟨b2, 0, none⟩)), Y 6 (i64 i), Y 7 (.int .i32 ((escP (Eng.from' (s) (i))).1)), Y 8 (i64 ((escP (Eng.from' (s) (i))).2))] rfl ?_)
       refine CW.sr ?_
       refine RL.m rfl rfl ?_
       replace hS12 : St w (fun _ _ => none) w11 Ml [.own 5 1 (vl) (ll).length ((ll).flatMap u8I), .box b2 [(av), (vl)] 85] := hS12.front 0 rfl rfl
       replace hS12 : St w (fun _ _ => none) w11 Ml [.box b2 [(av), (vl)] 85, .own 5 1 (vl) (ll).length ((ll).flatMap u8I)] := hS12.front 1 rfl rfl
       refine RL.callP Tryz.call46 (.cons (.t rfl) (.cons (.t rfl) .nil)) (writeRune_c (Rs := []) b2 ((av)) (ll) ((escP (Eng.from' (s) (i))).1) (vl) hS12 (by first | assumption | exact Or.inr rfl | exact Or.inl rfl) (by first | assumption | (simp only [len_app, len_cons, len_nil, ints_len] at *; omega)) (by first | omega | (simp only [from_one, len_app, len_cons, len_nil, ints_len]; omega))) rfl ?_
       rintro v14 w15 ⟨vb13, M16, rfl, hS17, hle18⟩
       replace hS17 : St w (fun _ _ => none) w15 M16 [.box b2 [(selfP b2), (vb13)] 85, .own 5 1 (vb13) ((ll) ++ encZ ((escP (Eng.from' (s) (i))).1)).length (((ll) ++ encZ ((escP (Eng.from' (s) (i))).1)).flatMap u8I)] := hS17
       refine RL.nil (CW.at [Y 0 (str s), Y 5 (.pointer (some ⟨b2, 0, none⟩)), Y 6 (i64 i), Y 8 (i64 ((escP (Eng.from' (s) (i))).2))] rfl ?_)
       refine CW.region ?_
       refine RL.m rfl rfl (RL.m rfl rfl (RL.u (.add (.t rfl) (.t rfl) (fun _ => by first | omega | (have hrl2 := hrl (by rw [from_len _ _ (by omega) (by omega)]; omega); rw [from_len _ _ (by omega) (by omega)] at hrl2; omega))) rfl (RL.a rfl rfl ?_)))
       replace hS17 : St w (fun _ _ => none) w15 M16 [.own 5 1 (vb13) ((ll) ++ encZ ((escP (Eng.from' (s) (i))).1)).length (((ll) ++ encZ ((escP (Eng.from' (s) (i))).1)).flatMap u8I), .box b2 [(selfP b2), (vb13)] 85] := hS17.front 1 rfl rfl
       refine RL.nil fun a hs => Exists.intro ((f - 1, (i) + ((escP (Eng.from' (s) (i))).2), (selfP b2), vb13, (ll) ++ encZ ((escP (Eng.from' (s) (i))).1), M16)) ⟨hs.keep [0, 5, 6], ?_, ?_⟩
       ·refine ⟨hS17, ?_⟩
        exact ⟨by omega, .inr rfl, by rw [← hF, unqGo_eq hf hb2, if_neg hb3, if_pos hb4, if_neg hb5], acc_len hlen (by omega), by omega, ints_enc _ hB⟩
       ·show Int.toNat _ < Int.toNat _; first | omega | (have hrl2 := hrl (by rw [from_len _ _ (by omega) (by omega)]; omega); omega)
     ·try simp only [zb] at hb4
      refine CW.sr ?_
      refine RL.m rfl rfl (RL.u (.lss (.t rfl) .c) rfl (RL.a rfl rfl ?_))
      refine RL.nil (CW.at [Y 0 (str s), Y 5 (.pointer (some ⟨b2, 0, none⟩)), Y 6 (i64 i), Y 7 (.int .i32 (runeAt (Eng.from' (s) (i)) 0)), Y 8 (i64 (runeLen (Eng.from' (s) (i)) 0)), Y 9 (.bool (((runeAt (Eng.from' (s) (i)) 0) == (65533)) && ((runeLen (Eng.from' (s) (i)) 0) == (1)))), Y 48 (.bool (decide ((runeAt (Eng.from' (s) (i)) 0) < (32))))] rfl ?_)
      refine CW.cond rfl (fun hb6 => ?_) (fun hb6 => ?_)
      ·try simp only [zb] at hb6
       refine CW.region ?_
       refine RL.u (.assign .c) rfl ?_
       refine RL.nil (CW.at [Y 0 (str s), Y 5 (.pointer (some ⟨b2, 0, none⟩)), Y 6 (i64 i), Y 7 (.int .i32 (runeAt (Eng.from' (s) (i)) 0)), Y 8 (i64 (runeLen (Eng.from' (s) (i)) 0)), Y 9 (.bool true)] rfl ?_)
       refine CW.seq ?_
       refine CW.sr ?_
       refine RL.m rfl rfl ?_
       refine RL.nil (CW.at [Y 0 (str s), Y 5 (.pointer (some ⟨b2, 0, none⟩)), Y 6 (i64 i), Y 7 (.int .i32 (runeAt (Eng.from' (s) (i)) 0)), Y 8 (i64 (runeLen (Eng.from' (s) (i)) 0)), Y 51 (.bool true)] rfl ?_)
       refine CW.cond rfl (fun _ => ?_) (fun h => by cases h)
       refine CW.sr ?_
       refine RL.m rfl rfl (RL.u (.assign .c) rfl (RL.a rfl rfl (RL.u (.assign .c) rfl ?_)))
       refine RL.nil (CW.at [Y 2 (str []), Y 3 (i64 i), Y 4 (i64 1)] rfl ?_)
       refine CW.ret (ret3 (P := Tryz.prog) (fn := Tryz.f30) (R := fun e w' => e = .returned (.tuple #[(str ((unqP s).1)), (i64 ((unqP s).2.1)), (i64 ((unqP s).2.2))]) ∧ Ext w w') rfl rfl rfl rfl ?_)
       have hq : unqP s = ([], i, 1) := by rw [← hF, unqGo_eq hf hb2, if_neg hb3, if_neg hb4, if_pos (.inl hb6)]
       rw [hq]; exact ⟨rfl, hS7.low⟩
      ·try simp only [zb] at hb6
       refine CW.skip (CW.at [Y 0 (str s), Y 5 (.pointer (some ⟨b2, 0, none⟩)), Y 6 (i64 i), Y 7 (.int .i32 (runeAt (Eng.from' (s) (i)) 0)), Y 8 (i64 (runeLen (Eng.from' (s) (i)) 0)), Y 9 (.bool (((runeAt (Eng.from' (s) (i)) 0) == (65533)) && ((runeLen (Eng.from' (s) (i)) 0) == (1))))] rfl ?_)
       refine CW.seq ?_
       refine CW.sr ?_
       refine RL.m rfl rfl ?_
       refine RL.nil (CW.at [Y 0 (str s), Y 5 (.pointer (some ⟨b2, 0, none⟩)), Y 6 (i64 i), Y 7 (.int .i32 (runeAt (Eng.from' (s) (i)) 0)), Y 8 (i64 (runeLen (Eng.from' (s) (i)) 0)), Y 51 (.bool (((runeAt (Eng.from' (s) (i)) 0) == (65533)) && ((runeLen (Eng.from' (s) (i)) 0) == (1))))] rfl ?_)
       refine CW.cond rfl (fun hb8 => ?_) (fun hb8 => ?_)
       ·try simp only [zb] at hb8
        refine CW.sr ?_
        refine RL.m rfl rfl (RL.u (.assign .c) rfl (RL.a rfl rfl (RL.u (.assign .c) rfl ?_)))
        refine RL.nil (CW.at [Y 2 (str []), Y 3 (i64 i), Y 4 (i64 1)] rfl ?_)
        refine CW.ret (ret3 (P := Tryz.prog) (fn := Tryz.f30) (R := fun e w' => e = .returned (.tuple #[(str ((unqP s).1)), (i64 ((unqP s).2.1)), (i64 ((unqP s).2.2))]) ∧ Ext w w') rfl rfl rfl rfl ?_)
        have hq : unqP s = ([], i, 1) := by rw [← hF, unqGo_eq hf hb2, if_neg hb3, if_neg hb4, if_pos (.inr hb8)]
        rw [hq]; exact ⟨rfl, hS7.low⟩
       ·try simp only [zb] at hb8
        refine CW.skip (CW.at [Y 0 (str s), Y 5 (.pointer (some ⟨b2, 0, none⟩)), Y 6 (i64 i), Y 7 (.int .i32 (runeAt (Eng.from' (s) (i)) 0)), Y 8 (i64 (runeLen (Eng.from' (s) (i)) 0))] rfl ?_)
        refine CW.sr ?_
        refine RL.m rfl rfl ?_
        replace hS7 : St w (fun _ _ => none) w6 Ml [.own 5 1 (vl) (ll).length ((ll).flatMap u8I), .box b2 [(av), (vl)] 85] := hS7.front 0 rfl rfl
        replace hS7 : St w (fun _ _ => none) w6 Ml [.box b2 [(av), (vl)] 85, .own 5 1 (vl) (ll).length ((ll).flatMap u8I)] := hS7.front 1 rfl rfl
        refine RL.callP Tryz.call46 (.cons (.t rfl) (.cons (.t rfl) .nil)) (writeRune_c (Rs := []) b2 ((av)) (ll) (runeAt (Eng.from' (s) (i)) 0) (vl) hS7 (by first | assumption | exact Or.inr rfl | exact Or.inl rfl) (by first | assumption | (simp only [len_app, len_cons, len_nil, ints_len] at *; omega)) (by first | omega | (simp only [from_one, len_app, len_cons, len_nil, ints_len]; omega))) rfl ?_
        rintro v20 w21 ⟨vb19, M22, rfl, hS23, hle24⟩
        replace hS23 : St w (fun _ _ => none) w21 M22 [.box b2 [(selfP b2), (vb19)] 85, .own 5 1 (vb19) ((ll) ++ encZ (runeAt (Eng.from' (s) (i)) 0)).length (((ll) ++ encZ (runeAt (Eng.from' (s) (i)) 0)).flatMap u8I)] := hS23
        refine RL.nil (CW.at [Y 0 (str s), Y 5 (.pointer (some ⟨b2, 0, none⟩)), Y 6 (i64 i), Y 8 (i64 (runeLen (Eng.from' (s) (i)) 0))] rfl ?_)
        refine CW.region ?_
        refine RL.m rfl rfl (RL.m rfl rfl (RL.u (.add (.t rfl) (.t rfl) (fun _ => by first | omega | (have hrl2 := hrl (by rw [from_len _ _ (by omega) (by omega)]; omega); rw [from_len _ _ (by omega) (by omega)] at hrl2; omega))) rfl (RL.a rfl rfl ?_)))
        replace hS23 : St w (fun _ _ => none) w21 M22 [.own 5 1 (vb19) ((ll) ++ encZ (runeAt (Eng.from' (s) (i)) 0)).length (((ll) ++ encZ (runeAt (Eng.from' (s) (i)) 0)).flatMap u8I), .box b2 [(selfP b2), (vb19)] 85] := hS23.front 1 rfl rfl
        refine RL.nil fun a hs => Exists.intro ((f - 1, (i) + (runeLen (Eng.from' (s) (i)) 0), (selfP b2), vb19, (ll) ++ encZ (runeAt (Eng.from' (s) (i)) 0), M22)) ⟨hs.keep [0, 5, 6], ?_, ?_⟩
        ·refine ⟨hS23, ?_⟩
         have hrl2 := hrl (by rw [from_len _ _ (by omega) (by omega)]; omega)
         exact ⟨by omega, .inr rfl, by rw [← hF, unqGo_eq hf hb2, if_neg hb3, if_neg hb4, if_neg (by rintro (h | ⟨h, h2⟩) <;> omega)], acc_len hlen (by omega), by omega, ints_enc _ hB⟩
        ·show Int.toNat _ < Int.toNat _; first | omega | (have hrl2 := hrl (by rw [from_len _ _ (by omega) (by omega)]; omega); omega)
   ·try simp only [zb] at hb2
    refine CW.exit (CW.at [Y 0 (str s)] rfl ?_)
    refine CW.sr ?_
    refine RL.m rfl rfl (RL.u (.lenS (.t rfl) Tryz.underlying9) rfl (RL.u (.assign .c) rfl (RL.a rfl rfl (RL.u (.assign .c) rfl ?_))))
    refine RL.nil (CW.at [Y 2 (str []), Y 3 (i64 (len (s))), Y 4 (i64 1)] rfl ?_)
    refine CW.ret (ret3 (P := Tryz.prog) (fn := Tryz.f30) (R := fun e w' => e = .returned (.tuple #[(str ((unqP s).1)), (i64 ((unqP s).2.1)), (i64 ((unqP s).2.2))]) ∧ Ext w w') rfl rfl rfl rfl ?_)
    have hq : unqP s = ([], len (s), 1) := by rw [← hF, unqGo_end hb2]
    rw [hq]; exact ⟨rfl, hS5.low⟩

end Go.Proofs.YthdialbnlnjgpaaGreatDoor
