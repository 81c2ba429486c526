/- lots: what is decoded can be run (no program in sight). -/
import Derived.Test.YtlcfkdglknkbdaaDoorLoL
namespace Go.Proofs.YtlcfkdglknkbdaaDoor.Lo
open Go.RowKit Go.Proofs.YtlcfkdglknkbdaaDoorW.PrintWords Go.Proofs.YtlcfkdglknkbdaaDoorW.PrintLast Go.Proofs.YtlcfkdglknkbdaaDoorW.PrintMore Go.Proofs.YtlcfkdglknkbdaaDoor.X
set_option linter.unusedVariables false
set_option linter.unusedSimpArgs false

theorem kind_cases (st b : Int) (hb : 0 ≤ b) (hs : 1 ≤ st ∧ st ≤ 5) : (st = 1 ∧ (kindOf st b = 1 ∨ kindOf st b = 2 ∨ kindOf st b = 3)) ∨ (st = 2 ∧ (kindOf st b = 4 ∨ kindOf st b = 5)) ∨ ((st = 3 ∨ st = 4 ∨ st = 5) ∧ (kindOf st b = 6 ∨ kindOf st b = 7 ∨ kindOf st b = 8)) := by
  have h0 := Int.emod_nonneg b (show (3 : Int) ≠ 0 by omega)
  have h1 := Int.emod_lt_of_pos b (show (0 : Int) < 3 by omega)
  have h2 := Int.emod_nonneg b (show (2 : Int) ≠ 0 by omega)
  have h3 := Int.emod_lt_of_pos b (show (0 : Int) < 2 by omega)
  unfold kindOf
  split
  · omega
  · split <;> omega
theorem fits_mk (st k x y : Int) (hx : 0 ≤ x ∧ x < 256) (hy : 0 ≤ y ∧ y < 256) (h : (st = 1 ∧ (k = 1 ∨ k = 2 ∨ k = 3)) ∨ (st = 2 ∧ (k = 4 ∨ k = 5)) ∨ ((st = 3 ∨ st = 4 ∨ st = 5) ∧ (k = 6 ∨ k = 7 ∨ k = 8))) : fits st (mkOp st k x y) = true := by
  rcases h with ⟨rfl, rfl | rfl | rfl⟩ | ⟨rfl, rfl | rfl⟩ | ⟨rfl | rfl | rfl, rfl | rfl | rfl⟩ <;> simp [fits, mkOp, okPile, okCort, okKey] <;> omega
theorem fits_at (st : Int) (hs : 1 ≤ st ∧ st ≤ 5) (s : ByteArray) (i : Nat) : fits st (opAt st s i) = true :=
  fits_mk st _ _ _ ⟨bt_nonneg s _, bt_lt s _⟩ ⟨bt_nonneg s _, bt_lt s _⟩ (kind_cases st _ (bt_nonneg s _) hs)
theorem st_rng (s : ByteArray) : 1 ≤ stOf s ∧ stOf s ≤ 5 := by
  obtain ⟨_, l, k⟩ := bt_mod s 0 5 (by decide)
  unfold stOf; omega
theorem th_rng (s : ByteArray) : 1 ≤ thOf s ∧ thOf s ≤ 6 := by
  obtain ⟨_, l, k⟩ := bt_mod s 2 6 (by decide)
  unfold thOf; omega
theorem cfg_ok (s : ByteArray) : okConf (cfgOf s) = true := by
  obtain ⟨_, l1, k1⟩ := bt_mod s 1 5 (by decide)
  obtain ⟨_, l4, k4⟩ := bt_mod s 4 64 (by decide)
  have := st_rng s
  have := th_rng s
  have := bt_nonneg s 3
  have := bt_lt s 3
  exact decide_eq_true (by unfold cfgOf; simp only []; omega)
theorem cnt_le (s : ByteArray) : cntOf s ≤ 64 := by
  obtain ⟨_, l1, k1⟩ := bt_mod s 5 65 (by decide)
  unfold cntOf; omega
theorem pick_rng (s : ByteArray) (i : Nat) : 0 ≤ bt s i % thOf s ∧ bt s i % thOf s < thOf s := by
  have h := th_rng s
  exact ⟨Int.emod_nonneg _ (by omega), Int.emod_lt_of_pos _ (by omega)⟩
theorem dec_n5 (s : ByteArray) : (dec s).f1.length = cntOf s := tasks_length s _
theorem dec_n6 (s : ByteArray) : (dec s).f2.length = npick s := picks_length s _ _
theorem npick_le (s : ByteArray) : npick s ≤ 4096 ∧ npick s ≤ s.size := by unfold npick; omega
theorem dec_good (s : ByteArray) : goodB (dec s) = true := by
  unfold goodB
  rw [dec_n5, dec_n6, decide_eq_true (cnt_le s), decide_eq_true (npick_le s).1]
  have h1 : okConf (dec s).f0 = true := cfg_ok s
  rw [h1]
  simp only [Bool.and_true, Bool.true_and, Bool.and_eq_true, List.all_eq_true]
  refine ⟨fun t ht => ?_, fun n hn => ?_⟩
  · have ht' : t ∈ tasks s (cntOf s) := ht
    unfold tasks at ht'
    obtain ⟨k, _, rfl⟩ := List.mem_map.1 ht'
    unfold goodT taskAt
    rw [Bool.and_eq_true]
    exact ⟨decide_eq_true (pick_rng s _), fits_at _ (st_rng s) s _⟩
  · have hn' : n ∈ picks s (6 + 4 * cntOf s) (npick s) := hn
    unfold picks at hn'
    obtain ⟨k, _, rfl⟩ := List.mem_map.1 hn'
    exact decide_eq_true (pick_rng s _)
/-- Decode's answer, with its lengths named. -/
theorem dec_x (s : ByteArray) (hs : s.size ≤ 40000) (X : S28) (hX : X = dec s) (n5 n6 : Nat) (h5 : n5 = X.f1.length) (h6 : n6 = X.f2.length) (w : World) : Calls Tryd.prog 9 #[.string s] w fun e w' => ∃ B5 d5 B6 d6, e = .returned (.agg #[.int .i64 X.f0.f0, .int .i64 X.f0.f1, .int .i64 X.f0.f2, .int .i64 X.f0.f3, .int .i64 X.f0.f4, .slice B5 n5 d5, .slice B6 n6 d6]) ∧ SV w' X (.agg #[.int .i64 X.f0.f0, .int .i64 X.f0.f1, .int .i64 X.f0.f2, .int .i64 X.f0.f3, .int .i64 X.f0.f4, .slice B5 n5 d5, .slice B6 n6 d6]) ∧ Below w.heap.size w w' := by
  subst hX h5 h6
  refine (dec_s s hs w).mono ?_
  rintro e w1 ⟨v, rfl, hv, hb⟩
  have hv' := hv
  obtain ⟨A5, c5, A6, c6, rfl, _, _, _, _⟩ := hv
  exact ⟨A5, c5, A6, c6, rfl, hv', hb⟩
end Go.Proofs.YtlcfkdglknkbdaaDoor.Lo
