/- lots: args, Kinds, slices.Index: what they answer. -/
import Derived.Test.YtlcfkdglknkbdaaDoorLoG
namespace Go.Proofs.YtlcfkdglknkbdaaDoor.Lo
open Go.RowKit Go.Proofs.YtlcfkdglknkbdaaDoorW.PrintWords Go.Proofs.YtlcfkdglknkbdaaDoorW.PrintLast Go.Proofs.YtlcfkdglknkbdaaDoorW.PrintMore Go.Proofs.YtlcfkdglknkbdaaDoor.X
set_option linter.unusedVariables false
set_option linter.unusedSimpArgs false

/-- The last two bytes of an operation. -/
def argX (o : S35) : Int := if o.f0 = 1 ∨ o.f0 = 4 then o.f2 / 256 else o.f1
def argY (o : S35) : Int := if o.f0 = 1 ∨ o.f0 = 4 then o.f2 % 256 else o.f2
def argB (st : Int) (o : S35) : Bool := decide (¬ (o.f0 = 6 ∧ st = 5 ∧ o.f3 ≠ argY o % 3 + 1) ∧ argX o < 256 ∧ argY o < 256)
set_option maxRecDepth 100000 in
set_option maxHeartbeats 2000000 in
theorem args_c (st k key val tall : Int) (w : World) (hv : 0 ≤ val) (hv2 : val ≤ 1073741824) :
    Calls Tryd.prog 23 #[.int .i64 st, .agg #[.int .i64 k, .int .i64 key, .int .i64 val, .int .i64 tall]] w fun e w' => (argB st ⟨k, key, val, tall⟩ = true → e = .returned (.tuple #[.int .i64 (argX ⟨k, key, val, tall⟩), .int .i64 (argY ⟨k, key, val, tall⟩), .bool true])) ∧ (argB st ⟨k, key, val, tall⟩ = false → ∃ x y, e = .returned (.tuple #[.int .i64 x, .int .i64 y, .bool false])) ∧ Below w.heap.size w w' := by
  have hu := Tryd.underlying35
  have HX := Aside0.mk (blk_new w (.cells #[.int .i64 k, .int .i64 key, .int .i64 val, .int .i64 tall] 35))
  have HB0 := Aside0.mk (below_alloc (Below.refl w.heap.size w) (.cells #[.int .i64 k, .int .i64 key, .int .i64 val, .int .i64 tall] 35))
  have ht : val.tmod 256 = val % 256 := Int.tmod_eq_emod_of_nonneg hv
  have hd : val.tdiv 256 = val / 256 := Int.tdiv_eq_ediv_of_nonneg hv
  have h0 : 0 ≤ val / 256 := by omega
  have h1 : val / 256 ≤ 4194304 := by omega
  have h2 : 0 ≤ val % 256 := by omega
  have h3 : val % 256 < 256 := by omega
  go_enter Tryd.func23, Tryd.ntmps23
  go_wp2
  go_quiet (fail)
  replace HX := Aside0.mk (blk_below (pw_below_drewN (Below.refl _ _) nq) HX.out)
  replace HB0 := Aside0.mk (pw_below_drewN HB0.out nq)
  obtain ⟨w1, hw1⟩ : ∃ z, z = (w.alloc (.cells #[.int .i64 k, .int .i64 key, .int .i64 val, .int .i64 tall] 35)).drewN nq := ⟨_, rfl⟩
  rw [← hw1] at HX HB0 ⊢
  clear hw1
  have c0 := (blk_cell HX.out 0).trans rfl
  have c1 := (blk_cell HX.out 1).trans rfl
  have c2 := (blk_cell HX.out 2).trans rfl
  have c3 := (blk_cell HX.out 3).trans rfl
  have z0 : 0 ≤ val % 3 := by omega
  have z1 : val % 3 < 3 := by omega
  have z2 : val.tmod 3 = val % 3 := Int.tmod_eq_emod_of_nonneg hv
  by_cases e1 : k = 1
  · subst e1
    by_cases hx : val / 256 < 256
    · have hAX : argX ⟨1, key, val, tall⟩ = val / 256 := by simp [argX]
      have hAY : argY ⟨1, key, val, tall⟩ = val % 256 := by simp [argY]
      have hAB : argB st ⟨1, key, val, tall⟩ = true := decide_eq_true (by rw [hAX, hAY]; simp only []; omega)
      have HAX := Aside0.mk hAX
      have HAY := Aside0.mk hAY
      have HAB := Aside0.mk hAB
      clear hAX hAY hAB
      go_wp2
      go_quiet (fail)
      replace HB0 := Aside0.mk (pw_below_drewN HB0.out nq)
      clear c0 c1 c2 c3 HX
      go_wp2
      go_ret3
      exact ⟨(fun _ => by rw [HAX.out, HAY.out]; rfl), (fun h => by rw [HAB.out] at h; cases h), HB0.out⟩
    · have hAX : argX ⟨1, key, val, tall⟩ = val / 256 := by simp [argX]
      have hAY : argY ⟨1, key, val, tall⟩ = val % 256 := by simp [argY]
      have hAB : argB st ⟨1, key, val, tall⟩ = false := decide_eq_false (by rw [hAX, hAY]; simp only []; omega)
      have HAX := Aside0.mk hAX
      have HAY := Aside0.mk hAY
      have HAB := Aside0.mk hAB
      clear hAX hAY hAB
      go_wp2
      go_quiet (fail)
      replace HB0 := Aside0.mk (pw_below_drewN HB0.out nq)
      clear c0 c1 c2 c3 HX
      go_wp2
      go_ret3
      exact ⟨(fun h => by rw [HAB.out] at h; cases h), fun _ => ⟨_, _, rfl⟩, HB0.out⟩
  · by_cases e4 : k = 4
    · subst e4
      by_cases hx : val / 256 < 256
      · have hAX : argX ⟨4, key, val, tall⟩ = val / 256 := by simp [argX]
        have hAY : argY ⟨4, key, val, tall⟩ = val % 256 := by simp [argY]
        have hAB : argB st ⟨4, key, val, tall⟩ = true := decide_eq_true (by rw [hAX, hAY]; simp only []; omega)
        have HAX := Aside0.mk hAX
        have HAY := Aside0.mk hAY
        have HAB := Aside0.mk hAB
        clear hAX hAY hAB
        go_wp2
        go_quiet (fail)
        replace HB0 := Aside0.mk (pw_below_drewN HB0.out nq)
        clear c0 c1 c2 c3 HX
        go_wp2
        go_ret3
        exact ⟨(fun _ => by rw [HAX.out, HAY.out]; rfl), (fun h => by rw [HAB.out] at h; cases h), HB0.out⟩
      · have hAX : argX ⟨4, key, val, tall⟩ = val / 256 := by simp [argX]
        have hAY : argY ⟨4, key, val, tall⟩ = val % 256 := by simp [argY]
        have hAB : argB st ⟨4, key, val, tall⟩ = false := decide_eq_false (by rw [hAX, hAY]; simp only []; omega)
        have HAX := Aside0.mk hAX
        have HAY := Aside0.mk hAY
        have HAB := Aside0.mk hAB
        clear hAX hAY hAB
        go_wp2
        go_quiet (fail)
        replace HB0 := Aside0.mk (pw_below_drewN HB0.out nq)
        clear c0 c1 c2 c3 HX
        go_wp2
        go_ret3
        exact ⟨(fun h => by rw [HAB.out] at h; cases h), fun _ => ⟨_, _, rfl⟩, HB0.out⟩
    · by_cases e6 : k = 6
      · subst e6
        by_cases e5 : st = 5
        · subst e5
          by_cases e3 : tall = val % 3 + 1
          · subst e3
            by_cases hx : key < 256
            · by_cases hy : val < 256
              · have hAX : argX ⟨6, key, val, val % 3 + 1⟩ = key := by simp [argX]
                have hAY : argY ⟨6, key, val, val % 3 + 1⟩ = val := by simp [argY]
                have hAB : argB 5 ⟨6, key, val, val % 3 + 1⟩ = true := decide_eq_true (by rw [hAX, hAY]; simp only []; omega)
                have HAX := Aside0.mk hAX
                have HAY := Aside0.mk hAY
                have HAB := Aside0.mk hAB
                clear hAX hAY hAB
                go_wp2
                go_ret3
                exact ⟨(fun _ => by rw [HAX.out, HAY.out]; rfl), (fun h => by rw [HAB.out] at h; cases h), HB0.out⟩
              · have hAX : argX ⟨6, key, val, val % 3 + 1⟩ = key := by simp [argX]
                have hAY : argY ⟨6, key, val, val % 3 + 1⟩ = val := by simp [argY]
                have hAB : argB 5 ⟨6, key, val, val % 3 + 1⟩ = false := decide_eq_false (by rw [hAX, hAY]; simp only []; omega)
                have HAX := Aside0.mk hAX
                have HAY := Aside0.mk hAY
                have HAB := Aside0.mk hAB
                clear hAX hAY hAB
                go_wp2
                go_ret3
                exact ⟨(fun h => by rw [HAB.out] at h; cases h), fun _ => ⟨_, _, rfl⟩, HB0.out⟩
            · have hAX : argX ⟨6, key, val, val % 3 + 1⟩ = key := by simp [argX]
              have hAY : argY ⟨6, key, val, val % 3 + 1⟩ = val := by simp [argY]
              have hAB : argB 5 ⟨6, key, val, val % 3 + 1⟩ = false := decide_eq_false (by rw [hAX, hAY]; simp only []; omega)
              have HAX := Aside0.mk hAX
              have HAY := Aside0.mk hAY
              have HAB := Aside0.mk hAB
              clear hAX hAY hAB
              go_wp2
              go_ret3
              exact ⟨(fun h => by rw [HAB.out] at h; cases h), fun _ => ⟨_, _, rfl⟩, HB0.out⟩
          · have hAX : argX ⟨6, key, val, tall⟩ = key := by simp [argX]
            have hAY : argY ⟨6, key, val, tall⟩ = val := by simp [argY]
            have hAB : argB 5 ⟨6, key, val, tall⟩ = false := decide_eq_false (by rw [hAX, hAY]; intro h; exact h.1 ⟨rfl, rfl, e3⟩)
            have HAX := Aside0.mk hAX
            have HAY := Aside0.mk hAY
            have HAB := Aside0.mk hAB
            clear hAX hAY hAB
            go_wp2
            go_ret3
            exact ⟨(fun h => by rw [HAB.out] at h; cases h), fun _ => ⟨_, _, rfl⟩, HB0.out⟩
        · by_cases hx : key < 256
          · by_cases hy : val < 256
            · have hAX : argX ⟨6, key, val, tall⟩ = key := by simp [argX]
              have hAY : argY ⟨6, key, val, tall⟩ = val := by simp [argY]
              have hAB : argB st ⟨6, key, val, tall⟩ = true := decide_eq_true (by rw [hAX, hAY]; simp only []; omega)
              have HAX := Aside0.mk hAX
              have HAY := Aside0.mk hAY
              have HAB := Aside0.mk hAB
              clear hAX hAY hAB
              go_wp2
              go_ret3
              exact ⟨(fun _ => by rw [HAX.out, HAY.out]; rfl), (fun h => by rw [HAB.out] at h; cases h), HB0.out⟩
            · have hAX : argX ⟨6, key, val, tall⟩ = key := by simp [argX]
              have hAY : argY ⟨6, key, val, tall⟩ = val := by simp [argY]
              have hAB : argB st ⟨6, key, val, tall⟩ = false := decide_eq_false (by rw [hAX, hAY]; simp only []; omega)
              have HAX := Aside0.mk hAX
              have HAY := Aside0.mk hAY
              have HAB := Aside0.mk hAB
              clear hAX hAY hAB
              go_wp2
              go_ret3
              exact ⟨(fun h => by rw [HAB.out] at h; cases h), fun _ => ⟨_, _, rfl⟩, HB0.out⟩
          · have hAX : argX ⟨6, key, val, tall⟩ = key := by simp [argX]
            have hAY : argY ⟨6, key, val, tall⟩ = val := by simp [argY]
            have hAB : argB st ⟨6, key, val, tall⟩ = false := decide_eq_false (by rw [hAX, hAY]; simp only []; omega)
            have HAX := Aside0.mk hAX
            have HAY := Aside0.mk hAY
            have HAB := Aside0.mk hAB
            clear hAX hAY hAB
            go_wp2
            go_ret3
            exact ⟨(fun h => by rw [HAB.out] at h; cases h), fun _ => ⟨_, _, rfl⟩, HB0.out⟩
      · by_cases hx : key < 256
        · by_cases hy : val < 256
          · have hAX : argX ⟨k, key, val, tall⟩ = key := by simp [argX, e1, e4]
            have hAY : argY ⟨k, key, val, tall⟩ = val := by simp [argY, e1, e4]
            have hAB : argB st ⟨k, key, val, tall⟩ = true := decide_eq_true (by rw [hAX, hAY]; simp only []; omega)
            have HAX := Aside0.mk hAX
            have HAY := Aside0.mk hAY
            have HAB := Aside0.mk hAB
            clear hAX hAY hAB
            go_wp2
            go_ret3
            exact ⟨(fun _ => by rw [HAX.out, HAY.out]; rfl), (fun h => by rw [HAB.out] at h; cases h), HB0.out⟩
          · have hAX : argX ⟨k, key, val, tall⟩ = key := by simp [argX, e1, e4]
            have hAY : argY ⟨k, key, val, tall⟩ = val := by simp [argY, e1, e4]
            have hAB : argB st ⟨k, key, val, tall⟩ = false := decide_eq_false (by rw [hAX, hAY]; simp only []; omega)
            have HAX := Aside0.mk hAX
            have HAY := Aside0.mk hAY
            have HAB := Aside0.mk hAB
            clear hAX hAY hAB
            go_wp2
            go_ret3
            exact ⟨(fun h => by rw [HAB.out] at h; cases h), fun _ => ⟨_, _, rfl⟩, HB0.out⟩
        · have hAX : argX ⟨k, key, val, tall⟩ = key := by simp [argX, e1, e4]
          have hAY : argY ⟨k, key, val, tall⟩ = val := by simp [argY, e1, e4]
          have hAB : argB st ⟨k, key, val, tall⟩ = false := decide_eq_false (by rw [hAX, hAY]; simp only []; omega)
          have HAX := Aside0.mk hAX
          have HAY := Aside0.mk hAY
          have HAB := Aside0.mk hAB
          clear hAX hAY hAB
          go_wp2
          go_ret3
          exact ⟨(fun h => by rw [HAB.out] at h; cases h), fun _ => ⟨_, _, rfl⟩, HB0.out⟩
end Go.Proofs.YtlcfkdglknkbdaaDoor.Lo
