/- awake of board's laws; the five laws' walks, first part. -/
import Derived.Test.YtcnhjbpgjemnhaaDoorBdB
namespace Go.Proofs.YtcnhjbpgjemnhaaDoor.Bd
open Go.RowKit Go.Proofs.YtcnhjbpgjemnhaaDoorW.PrintWords Go.Proofs.YtcnhjbpgjemnhaaDoorW.PrintLast Go.Proofs.YtcnhjbpgjemnhaaDoorW.PrintMore Go.Proofs.YtcnhjbpgjemnhaaDoor.X
set_option linter.unusedVariables false
set_option linter.unusedSimpArgs false
attribute [local go_sem high] eqA25 eqA48 eqA50

set_option maxHeartbeats 1000000 in
theorem awake_c (aA : Addr) (w : World) (hA : w.cell? gArg = some (Sent aA)) : Calls Tryd.prog 8 #[] w fun e w' => e = .returned (.bool true) ∧ Below w.heap.size w w' := by
  have hu := Tryd.underlying25
  go_enter Tryd.func8, Tryd.ntmps8
  go_wp2_with fail
  refine (root_ok 3 _ (by decide)).mono ?_
  rintro e w1 ⟨rfl, hb1⟩
  go_wp2_with fail
  refine (keep_ok 1 0 _ (by decide) (by decide)).mono ?_
  rintro e w2 ⟨rfl, hb2⟩
  have x1 := blk_below hb2 (blk_new _ _)
  replace hb2 := below_step (below_alloc hb1 _) hb2
  clear hb1
  go_wp2_with fail
  refine (span_ok 5 _ (by decide)).mono ?_
  rintro e w3 ⟨rfl, hb3⟩
  have x2 := blk_below hb3 (blk_new _ _)
  have x1 := blk_below hb3 (blk_alloc x1 _)
  replace hb3 := below_step (below_alloc hb2 _) hb3
  clear hb2
  go_wp2_with fail
  refine (root_no 24 aA _ (by decide) (pw_cell_below (below_alloc hb3 _) hA)).mono ?_
  rintro e w4 ⟨v, rfl, hv, hb4⟩
  have x3 := blk_below hb4 (blk_new _ _)
  have x2 := blk_below hb4 (blk_alloc x2 _)
  have x1 := blk_below hb4 (blk_alloc x1 _)
  replace hb4 := below_step (below_alloc hb3 _) hb4
  clear hb3
  go_wp2_with fail
  refine (cells_c _).mono ?_
  rintro e w5 ⟨rfl, hb5⟩
  have x3 := blk_below hb5 (blk_alloc x3 _)
  have x2 := blk_below hb5 (blk_alloc x2 _)
  have x1 := blk_below hb5 (blk_alloc x1 _)
  have hv := Ats_below (Ats_below hv (below_alloc (Below.refl _ _) _)) hb5
  replace hb5 := below_step (below_alloc hb4 _) hb5
  clear hb4
  have x10 := (blk_cell x1 0).trans rfl
  have x11 := (blk_cell x1 1).trans rfl
  have x12 := (blk_cell x1 2).trans rfl
  go_wp2_with fail
  refine (era_c _).mono ?_
  rintro e w6 ⟨rfl, hb6⟩
  have x3 := blk_below hb6 x3
  have x2 := blk_below hb6 x2
  have hv := Ats_below hv hb6
  replace hb6 := below_step hb5 hb6
  clear hb5
  have x20 := (blk_cell x2 0).trans rfl
  have x21 := (blk_cell x2 1).trans rfl
  have x22 := (blk_cell x2 2).trans rfl
  have x30 := (blk_cell x3 0).trans rfl
  have x31 := (blk_cell x3 1).trans rfl
  have x32 := (blk_cell x3 2).trans rfl
  have hA6 := pw_cell_below hb6 hA
  go_wp2_with fail
  refine (is_s hv).mono ?_
  rintro e w7 ⟨rfl, hb7⟩
  go_wp2
  go_ret
  exact ⟨rfl, below_step hb6 hb7⟩

/-! ### BoardOnce -/
set_option maxHeartbeats 1000000 in
theorem once_walk (n : Int) (aA : Addr) (w : World) (hA : w.cell? gArg = some (Sent aA)) : Calls Tryd.prog 5 #[.int .i64 n] w fun e w' => e = .returned (.bool true) ∧ Below w.heap.size w w' := by
  have hu := Tryd.underlying25
  obtain ⟨f, hf, hf0, hf1⟩ : ∃ f : Int, wrap64 ((IntKind.u64.wrap n).tmod 85) = f ∧ 0 ≤ f ∧ f < 85 := by
    have h0 : 0 ≤ IntKind.u64.wrap n := by rw [IntKind.wrap_u64]; omega
    have h1 : (IntKind.u64.wrap n).tmod 85 = IntKind.u64.wrap n % 85 := Int.tmod_eq_emod_of_nonneg h0
    exact ⟨IntKind.u64.wrap n % 85, by rw [h1, w64 _ (by omega)], by omega, by omega⟩
  go_enter Tryd.func5, Tryd.ntmps5
  go_wp2_with fail
  refine (awake_c aA _ hA).mono ?_
  rintro e w1 ⟨rfl, hb1⟩
  go_wp2_with fail
  refine (cells_c _).mono ?_
  rintro e w2 ⟨rfl, hb2⟩
  replace hb2 := below_step hb1 hb2
  clear hb1
  go_wp2_with fail
  simp only [hf]
  clear hf
  refine (where_ok f _ ⟨hf0, hf1⟩).mono ?_
  rintro e w3 ⟨rfl, hb3⟩
  replace hb3 := below_step hb2 hb3
  clear hb2
  have hA3 := pw_cell_below hb3 hA
  by_cases h1 : f < 24
  · skip
    obtain ⟨q1, q2, q3⟩ := whereF f h1
    rw [q1, q2, q3]
    clear q1 q2 q3
    go_wp2_with fail
    refine (era_c _).mono ?_
    rintro e w4 ⟨rfl, hb4⟩
    replace hb4 := below_step hb3 hb4
    clear hb3
    go_wp2_with fail
    refine (root_ok f _ ⟨hf0, h1⟩).mono ?_
    rintro e w5 ⟨rfl, hb5⟩
    have hx := blk_below hb5 (blk_new _ _)
    have hx0 := (blk_cell hx 0).trans rfl
    have hx1 := (blk_cell hx 1).trans rfl
    have hx2 := (blk_cell hx 2).trans rfl
    have hf0_ := blk_frozen hx 0
    have hf1_ := blk_frozen hx 1
    have hf2_ := blk_frozen hx 2
    have hs := below_size hb4
    replace hb5 := below_step (below_alloc hb4 _) hb5
    clear hb4
    go_wp2
    go_ret
    exact ⟨rfl, below_set (below_set (below_set hb5 hs) hs) hs⟩
  · by_cases h2 : f = 24
    · subst h2
      rw [show whereS 24 = #[101, 114, 97] by decide, show whereT 24 = 0 by decide, show whereN 24 = 0 by decide]
      go_wp2_with fail
      refine (era_c _).mono ?_
      rintro e w4 ⟨rfl, hb4⟩
      replace hb4 := below_step hb3 hb4
      clear hb3
      go_wp2
      go_ret
      exact ⟨rfl, below_alloc hb4 _⟩
    · by_cases h3 : f < 79
      · have q4 : (25 : Int) + (f - 25) / 9 * 9 + (f - 25) % 9 = f := by omega
        have hk := keep_ok ((f - 25) / 9) ((f - 25) % 9)
        rw [q4] at hk
        replace hk := Aside0.mk hk
        clear q4
        obtain ⟨q1, q2, q3⟩ := whereK f (by omega) h3
        rw [q1, q2, q3]
        clear q1 q2 q3
        go_wp2_with fail
        refine (era_c _).mono ?_
        rintro e w4 ⟨rfl, hb4⟩
        replace hb4 := below_step hb3 hb4
        clear hb3
        go_wp2_with fail
        refine (hk.out _ (by omega) (by omega)).mono ?_
        rintro e w5 ⟨rfl, hb5⟩
        have hx := blk_below hb5 (blk_new _ _)
        have hx0 := (blk_cell hx 0).trans rfl
        have hx1 := (blk_cell hx 1).trans rfl
        have hx2 := (blk_cell hx 2).trans rfl
        have hf0_ := blk_frozen hx 0
        have hf1_ := blk_frozen hx 1
        have hf2_ := blk_frozen hx 2
        have hs := below_size hb4
        replace hb5 := below_step (below_alloc hb4 _) hb5
        clear hb4
        go_wp2
        go_ret
        exact ⟨rfl, below_set (below_set (below_set hb5 hs) hs) hs⟩
      · have q4 : (79 : Int) + (f - 79) = f := by omega
        have hk := span_ok (f - 79)
        rw [q4] at hk
        replace hk := Aside0.mk hk
        clear q4
        obtain ⟨q1, q2, q3⟩ := whereP f (by omega)
        rw [q1, q2, q3]
        clear q1 q2 q3
        go_wp2_with fail
        refine (era_c _).mono ?_
        rintro e w4 ⟨rfl, hb4⟩
        replace hb4 := below_step hb3 hb4
        clear hb3
        go_wp2_with fail
        refine (hk.out _ (by omega)).mono ?_
        rintro e w5 ⟨rfl, hb5⟩
        have hx := blk_below hb5 (blk_new _ _)
        have hx0 := (blk_cell hx 0).trans rfl
        have hx1 := (blk_cell hx 1).trans rfl
        have hx2 := (blk_cell hx 2).trans rfl
        have hf0_ := blk_frozen hx 0
        have hf1_ := blk_frozen hx 1
        have hf2_ := blk_frozen hx 2
        have hs := below_size hb4
        replace hb5 := below_step (below_alloc hb4 _) hb5
        clear hb4
        go_wp2
        go_ret
        exact ⟨rfl, below_set (below_set (below_set hb5 hs) hs) hs⟩
end Go.Proofs.YtcnhjbpgjemnhaaDoor.Bd
