/- creed's Fits, parish's Good: what they answer, 2. -/
import Derived.Test.YtlcfkdglknkbdaaDoorLoD
namespace Go.Proofs.YtlcfkdglknkbdaaDoor.Lo
open Go.RowKit Go.Proofs.YtlcfkdglknkbdaaDoorW.PrintWords Go.Proofs.YtlcfkdglknkbdaaDoorW.PrintLast Go.Proofs.YtlcfkdglknkbdaaDoorW.PrintMore Go.Proofs.YtlcfkdglknkbdaaDoor.X
set_option linter.unusedVariables false
set_option linter.unusedSimpArgs false

theorem from_c (k key val tall i : Int) (w : World) : Calls Tryd.prog 46 #[fld 0, .int .i64 i, .agg #[.int .i64 k, .int .i64 key, .int .i64 val, .int .i64 tall]] w fun e w' => ∃ p, e = .returned (.pointer p) ∧ Below w.heap.size w w' := by
  have hu := Tryd.underlying35
  have hu2 := Tryd.underlying102
  go_enter Tryd.func46, Tryd.ntmps46
  go_wp2
  go_ret
  exact ⟨_, rfl, below_alloc (below_alloc (below_alloc (Below.refl _ _) _) _) _⟩
set_option maxRecDepth 100000 in
set_option maxHeartbeats 2000000 in
theorem lit_c (k key val tall : Int) (aA : Addr) (w : World) (hA : w.cell? gArg = some (Sent aA)) :
    Calls Tryd.prog 34 #[.agg #[.int .i64 k, .int .i64 key, .int .i64 val, .int .i64 tall]] w fun e w' => ∃ p v, e = .returned (.tuple #[.pointer p, v]) ∧ OkE w' aA v (okKey k key val tall && decide (tall = 0)) ∧ Below w.heap.size w w' := by
  have hu := Tryd.underlying35
  have hu2 := Tryd.underlying102
  have HX := Aside0.mk (blk_new w (.cells #[.int .i64 k, .int .i64 key, .int .i64 val, .int .i64 tall] 35))
  have HB0 := Aside0.mk (below_alloc (Below.refl w.heap.size w) (.cells #[.int .i64 k, .int .i64 key, .int .i64 val, .int .i64 tall] 35))
  have HA := Aside0.mk hA
  clear hA
  obtain ⟨b, hbb⟩ : ∃ b, b = (okKey k key val tall) := ⟨_, rfl⟩
  rw [← hbb]
  have HBB := Aside0.mk hbb
  clear hbb
  go_enter Tryd.func34, Tryd.ntmps34
  go_wp2_with fail
  refine (root_ok 0 _ (by decide)).mono ?_
  rintro e w1 ⟨rfl, hb⟩
  replace HX := Aside0.mk (blk_below hb HX.out)
  replace HB0 := Aside0.mk (below_step HB0.out hb)
  clear hb
  have hb := below_alloc (Below.refl w1.heap.size w1) (.cells #[.int .i64 0, .int .i64 0, .int .i64 0] 102)
  replace HX := Aside0.mk (blk_below hb HX.out)
  replace HB0 := Aside0.mk (below_step HB0.out hb)
  have c0 := (blk_cell HX.out 0).trans rfl
  have c1 := (blk_cell HX.out 1).trans rfl
  have c2 := (blk_cell HX.out 2).trans rfl
  have c3 := (blk_cell HX.out 3).trans rfl
  have hY := blk_new w1 (.cells #[.int .i64 0, .int .i64 0, .int .i64 0] 102)
  have HY := Aside0.mk hY
  clear hb hY
  go_wp2_with fail
  refine (lgood_c k key val tall _).mono ?_
  rintro e w2 ⟨rfl, hb⟩
  rw [← HBB.out]
  clear c0 c1 c2 c3 HBB
  replace HY := Aside0.mk (blk_below hb HY.out)
  replace HX := Aside0.mk (blk_below hb HX.out)
  replace HB0 := Aside0.mk (below_step HB0.out hb)
  have c0 := (blk_cell HX.out 0).trans rfl
  have c1 := (blk_cell HX.out 1).trans rfl
  have c2 := (blk_cell HX.out 2).trans rfl
  have c3 := (blk_cell HX.out 3).trans rfl
  have y0 := (blk_cell HY.out 0).trans rfl
  have y1 := (blk_cell HY.out 1).trans rfl
  have y2 := (blk_cell HY.out 2).trans rfl
  clear hb
  rcases b with _ | _
  · have hA1 := pw_cell_below HB0.out HA.out
    go_wp2_with fail
    refine (at_s _ aA _).mono ?_
    rintro e w3 ⟨v, rfl, hv, hb⟩
    have HV := Aside0.mk hv
    replace HB0 := Aside0.mk (below_step HB0.out hb)
    clear hv hb HX c0 c1 c2 c3
    go_wp2
    go_ret2
    exact ⟨_, _, rfl, Or.inr ⟨by simp, HV.out⟩, HB0.out⟩
  · by_cases h : tall = 0
    · subst h
      go_wp2_with fail
      refine (from_c k key val 0 key _).mono ?_
      rintro e w3 ⟨p, rfl, hb⟩
      replace HB0 := Aside0.mk (below_step HB0.out hb)
      clear hb HX c0 c1 c2 c3
      go_wp2
      go_ret2
      exact ⟨_, _, rfl, Or.inl ⟨rfl, rfl⟩, HB0.out⟩
    · have hA1 := pw_cell_below HB0.out HA.out
      go_wp2_with fail
      refine (at_s _ aA _).mono ?_
      rintro e w3 ⟨v, rfl, hv, hb⟩
      have HV := Aside0.mk hv
      replace HB0 := Aside0.mk (below_step HB0.out hb)
      clear hv hb HX c0 c1 c2 c3
      go_wp2
      go_ret2
      exact ⟨_, _, rfl, Or.inr ⟨by simp [h], HV.out⟩, HB0.out⟩
set_option maxRecDepth 100000 in
set_option maxHeartbeats 2000000 in
theorem vault_c (k key val tall : Int) (aA : Addr) (w : World) (hA : w.cell? gArg = some (Sent aA)) :
    Calls Tryd.prog 35 #[.agg #[.int .i64 k, .int .i64 key, .int .i64 val, .int .i64 tall]] w fun e w' => ∃ p v, e = .returned (.tuple #[.pointer p, v]) ∧ OkE w' aA v (okKey k key val tall && decide (tall = 0)) ∧ Below w.heap.size w w' := by
  have hu := Tryd.underlying35
  have HX := Aside0.mk (blk_new w (.cells #[.int .i64 k, .int .i64 key, .int .i64 val, .int .i64 tall] 35))
  have HB0 := Aside0.mk (below_alloc (Below.refl w.heap.size w) (.cells #[.int .i64 k, .int .i64 key, .int .i64 val, .int .i64 tall] 35))
  have HA := Aside0.mk hA
  clear hA
  obtain ⟨b, hbb⟩ : ∃ b, b = (okKey k key val tall) := ⟨_, rfl⟩
  rw [← hbb]
  have HBB := Aside0.mk hbb
  clear hbb
  go_enter Tryd.func35, Tryd.ntmps35
  go_wp2_with fail
  refine (lgood_c k key val tall _).mono ?_
  rintro e w2 ⟨rfl, hb⟩
  rw [← HBB.out]
  clear HBB
  replace HX := Aside0.mk (blk_below hb HX.out)
  replace HB0 := Aside0.mk (below_step HB0.out hb)
  have c0 := (blk_cell HX.out 0).trans rfl
  have c1 := (blk_cell HX.out 1).trans rfl
  have c2 := (blk_cell HX.out 2).trans rfl
  have c3 := (blk_cell HX.out 3).trans rfl
  clear hb
  rcases b with _ | _
  · have hA1 := pw_cell_below HB0.out HA.out
    go_wp2_with fail
    refine (at_s _ aA _).mono ?_
    rintro e w3 ⟨v, rfl, hv, hb⟩
    have HV := Aside0.mk hv
    replace HB0 := Aside0.mk (below_step HB0.out hb)
    clear hv hb HX c0 c1 c2 c3
    go_wp2
    go_ret2
    exact ⟨_, _, rfl, Or.inr ⟨by simp, HV.out⟩, HB0.out⟩
  · by_cases h : tall = 0
    · subst h
      go_wp2
      go_ret2
      exact ⟨_, _, rfl, Or.inl ⟨by simp, rfl⟩, below_step HB0.out (below_alloc (Below.refl _ _) _)⟩
    · have hA1 := pw_cell_below HB0.out HA.out
      go_wp2_with fail
      refine (at_s _ aA _).mono ?_
      rintro e w3 ⟨v, rfl, hv, hb⟩
      have HV := Aside0.mk hv
      replace HB0 := Aside0.mk (below_step HB0.out hb)
      clear hv hb HX c0 c1 c2 c3
      go_wp2
      go_ret2
      exact ⟨_, _, rfl, Or.inr ⟨by simp [h], HV.out⟩, HB0.out⟩
set_option maxRecDepth 100000 in
set_option maxHeartbeats 2000000 in
theorem stee_c (k key val tall : Int) (aA : Addr) (w : World) (hA : w.cell? gArg = some (Sent aA)) :
    Calls Tryd.prog 36 #[.agg #[.int .i64 k, .int .i64 key, .int .i64 val, .int .i64 tall]] w fun e w' => ∃ p v, e = .returned (.tuple #[.pointer p, v]) ∧ OkE w' aA v (okKey k key val tall && !decide (k = 6 ∧ tall = 0)) ∧ Below w.heap.size w w' := by
  have hu := Tryd.underlying35
  have HX := Aside0.mk (blk_new w (.cells #[.int .i64 k, .int .i64 key, .int .i64 val, .int .i64 tall] 35))
  have HB0 := Aside0.mk (below_alloc (Below.refl w.heap.size w) (.cells #[.int .i64 k, .int .i64 key, .int .i64 val, .int .i64 tall] 35))
  have HA := Aside0.mk hA
  clear hA
  obtain ⟨b, hbb⟩ : ∃ b, b = (okKey k key val tall) := ⟨_, rfl⟩
  rw [← hbb]
  have HBB := Aside0.mk hbb
  clear hbb
  go_enter Tryd.func36, Tryd.ntmps36
  go_wp2_with fail
  refine (lgood_c k key val tall _).mono ?_
  rintro e w2 ⟨rfl, hb⟩
  rw [← HBB.out]
  clear HBB
  replace HX := Aside0.mk (blk_below hb HX.out)
  replace HB0 := Aside0.mk (below_step HB0.out hb)
  have c0 := (blk_cell HX.out 0).trans rfl
  have c1 := (blk_cell HX.out 1).trans rfl
  have c2 := (blk_cell HX.out 2).trans rfl
  have c3 := (blk_cell HX.out 3).trans rfl
  clear hb
  rcases b with _ | _
  · have hA1 := pw_cell_below HB0.out HA.out
    go_wp2_with fail
    refine (at_s _ aA _).mono ?_
    rintro e w3 ⟨v, rfl, hv, hb⟩
    have HV := Aside0.mk hv
    replace HB0 := Aside0.mk (below_step HB0.out hb)
    clear hv hb HX c0 c1 c2 c3
    go_wp2
    go_ret2
    exact ⟨_, _, rfl, Or.inr ⟨by simp, HV.out⟩, HB0.out⟩
  · by_cases h : k = 6
    · subst h
      by_cases h1 : tall = 0
      · subst h1
        have hA1 := pw_cell_below HB0.out HA.out
        go_wp2_with fail
        refine (at_s _ aA _).mono ?_
        rintro e w3 ⟨v, rfl, hv, hb⟩
        have HV := Aside0.mk hv
        replace HB0 := Aside0.mk (below_step HB0.out hb)
        clear hv hb HX c0 c1 c2 c3
        go_wp2
        go_ret2
        exact ⟨_, _, rfl, Or.inr ⟨by simp, HV.out⟩, HB0.out⟩
      · go_wp2
        go_ret2
        exact ⟨_, _, rfl, Or.inl ⟨by simp [h1], rfl⟩, below_step HB0.out (below_alloc (Below.refl _ _) _)⟩
    · go_wp2
      go_ret2
      exact ⟨_, _, rfl, Or.inl ⟨by simp [h], rfl⟩, below_step HB0.out (below_alloc (Below.refl _ _) _)⟩
/-- Whether an operation fits. -/
def fits (st : Int) (o : S35) : Bool :=
  if st = 1 then okPile o.f0 o.f1 o.f2 o.f3
  else if st = 2 then okCort o.f0 o.f1 o.f2 o.f3
  else if st = 3 ∨ st = 4 then okKey o.f0 o.f1 o.f2 o.f3 && decide (o.f3 = 0)
  else if st = 5 then okKey o.f0 o.f1 o.f2 o.f3 && !decide (o.f0 = 6 ∧ o.f3 = 0)
  else false
set_option maxRecDepth 100000 in
set_option maxHeartbeats 2000000 in
theorem fits_c (st k key val tall : Int) (aA : Addr) (w : World) (hA : w.cell? gArg = some (Sent aA)) :
    Calls Tryd.prog 14 #[.int .i64 st, .agg #[.int .i64 k, .int .i64 key, .int .i64 val, .int .i64 tall]] w fun e w' => e = .returned (.bool (fits st ⟨k, key, val, tall⟩)) ∧ Below w.heap.size w w' := by
  have hu := Tryd.underlying35
  have HB0 := Aside0.mk (below_alloc (Below.refl w.heap.size w) (.cells #[.int .i64 k, .int .i64 key, .int .i64 val, .int .i64 tall] 35))
  have hA1 := pw_cell_below HB0.out hA
  clear hA
  go_enter Tryd.func14, Tryd.ntmps14
  by_cases e1 : st = 1
  · subst e1
    go_wp2_with fail
    refine (pile_c k key val tall aA _ hA1).mono ?_
    rintro e w1 ⟨p, v, rfl, hv, hb⟩
    replace HB0 := Aside0.mk (below_step HB0.out hb)
    clear hb hA1
    rcases hv with ⟨hv, rfl⟩ | ⟨hv, g, q, rfl, hq⟩
    · have HV := Aside0.mk hv
      clear hv
      go_wp2
      go_ret
      exact ⟨by rw [show fits 1 ⟨k, key, val, tall⟩ = true by simpa [fits] using HV.out]; rfl, HB0.out⟩
    · have HV := Aside0.mk hv
      clear hv hq
      go_wp2
      go_ret
      exact ⟨by rw [show fits 1 ⟨k, key, val, tall⟩ = false by simpa [fits] using HV.out]; rfl, HB0.out⟩
  · by_cases e2 : st = 2
    · subst e2
      go_wp2_with fail
      refine (cort_c k key val tall aA _ hA1).mono ?_
      rintro e w1 ⟨p, v, rfl, hv, hb⟩
      replace HB0 := Aside0.mk (below_step HB0.out hb)
      clear hb hA1
      rcases hv with ⟨hv, rfl⟩ | ⟨hv, g, q, rfl, hq⟩
      · have HV := Aside0.mk hv
        clear hv
        go_wp2
        go_ret
        exact ⟨by rw [show fits 2 ⟨k, key, val, tall⟩ = true by simpa [fits] using HV.out]; rfl, HB0.out⟩
      · have HV := Aside0.mk hv
        clear hv hq
        go_wp2
        go_ret
        exact ⟨by rw [show fits 2 ⟨k, key, val, tall⟩ = false by simpa [fits] using HV.out]; rfl, HB0.out⟩
    · by_cases e3 : st = 3
      · subst e3
        go_wp2_with fail
        refine (lit_c k key val tall aA _ hA1).mono ?_
        rintro e w1 ⟨p, v, rfl, hv, hb⟩
        replace HB0 := Aside0.mk (below_step HB0.out hb)
        clear hb hA1
        rcases hv with ⟨hv, rfl⟩ | ⟨hv, g, q, rfl, hq⟩
        · have HV := Aside0.mk hv
          clear hv
          go_wp2
          go_ret
          exact ⟨by rw [show fits 3 ⟨k, key, val, tall⟩ = true by simpa [fits] using HV.out]; rfl, HB0.out⟩
        · have HV := Aside0.mk hv
          clear hv hq
          go_wp2
          go_ret
          exact ⟨by rw [show fits 3 ⟨k, key, val, tall⟩ = false by simpa [fits] using HV.out]; rfl, HB0.out⟩
      · by_cases e4 : st = 4
        · subst e4
          go_wp2_with fail
          refine (vault_c k key val tall aA _ hA1).mono ?_
          rintro e w1 ⟨p, v, rfl, hv, hb⟩
          replace HB0 := Aside0.mk (below_step HB0.out hb)
          clear hb hA1
          rcases hv with ⟨hv, rfl⟩ | ⟨hv, g, q, rfl, hq⟩
          · have HV := Aside0.mk hv
            clear hv
            go_wp2
            go_ret
            exact ⟨by rw [show fits 4 ⟨k, key, val, tall⟩ = true by simpa [fits] using HV.out]; rfl, HB0.out⟩
          · have HV := Aside0.mk hv
            clear hv hq
            go_wp2
            go_ret
            exact ⟨by rw [show fits 4 ⟨k, key, val, tall⟩ = false by simpa [fits] using HV.out]; rfl, HB0.out⟩
        · by_cases e5 : st = 5
          · subst e5
            go_wp2_with fail
            refine (stee_c k key val tall aA _ hA1).mono ?_
            rintro e w1 ⟨p, v, rfl, hv, hb⟩
            replace HB0 := Aside0.mk (below_step HB0.out hb)
            clear hb hA1
            rcases hv with ⟨hv, rfl⟩ | ⟨hv, g, q, rfl, hq⟩
            · have HV := Aside0.mk hv
              clear hv
              go_wp2
              go_ret
              exact ⟨by rw [show fits 5 ⟨k, key, val, tall⟩ = true by simpa [fits] using HV.out]; rfl, HB0.out⟩
            · have HV := Aside0.mk hv
              clear hv hq
              go_wp2
              go_ret
              exact ⟨by rw [show fits 5 ⟨k, key, val, tall⟩ = false by simpa [fits] using HV.out]; rfl, HB0.out⟩
          · go_wp2
            go_ret
            exact ⟨by rw [show fits st ⟨k, key, val, tall⟩ = false by simp [fits, e1, e2, e3, e4, e5]]; rfl, HB0.out⟩
end Go.Proofs.YtlcfkdglknkbdaaDoor.Lo
