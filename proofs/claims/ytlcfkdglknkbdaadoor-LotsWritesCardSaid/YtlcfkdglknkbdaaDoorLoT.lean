/- lots: the document's Fits and Good of a layout. (Printed by gen_ref.py.) -/
import Derived.Test.YtlcfkdglknkbdaaDoorLoQ
namespace Go.Proofs.YtlcfkdglknkbdaaDoor.Lo
open Go.RowKit Go.Proofs.YtlcfkdglknkbdaaDoorW.PrintWords Go.Proofs.YtlcfkdglknkbdaaDoorW.PrintLast Go.Proofs.YtlcfkdglknkbdaaDoorW.PrintMore Go.Proofs.YtlcfkdglknkbdaaDoor.X
set_option linter.unusedVariables false
set_option linter.unusedSimpArgs false

set_option maxRecDepth 100000 in
set_option maxHeartbeats 2000000 in
theorem rpile_c (k key val tall : Int) (w : World) :
    Calls Tryd.prog 47 #[.agg #[.int .i64 k, .int .i64 key, .int .i64 val, .int .i64 tall]] w fun e w' => ∃ p, e = .returned (.pointer p) ∧ (p.isSome = okPile k key val tall) ∧ Below w.heap.size w w' := by
  have hu := Tryd.underlying35
  have HB0 := Aside0.mk (below_alloc (Below.refl w.heap.size w) (.cells #[.int .i64 k, .int .i64 key, .int .i64 val, .int .i64 tall] 35))
  go_enter Tryd.func47, Tryd.ntmps47
  by_cases c1 : 1 ≤ k
  · by_cases c2 : k ≤ 3
    · by_cases c3 : key = 0
      · subst c3
        by_cases c4 : tall = 0
        · subst c4
          by_cases c5 : 0 ≤ val
          · by_cases c6 : val ≤ 1073741824
            · by_cases d1 : k = 1
              · subst d1
                go_wp2
                go_ret
                exact ⟨_, rfl, by rw [show okPile _ _ _ _ = true from decide_eq_true (by omega)]; rfl, below_alloc (below_alloc (Below.refl _ _) _) _⟩
              · have d3 : (k != 1) = true := by simp [d1]
                by_cases d2 : val = 0
                · subst d2
                  go_wp2
                  go_ret
                  exact ⟨_, rfl, by rw [show okPile _ _ _ _ = true from decide_eq_true (by omega)]; rfl, below_alloc (below_alloc (Below.refl _ _) _) _⟩
                · have d4 : (val != 0) = true := by simp [d2]
                  go_wp2
                  go_ret
                  exact ⟨_, rfl, by rw [show okPile _ _ _ _ = false from decide_eq_false (by omega)]; rfl, below_alloc (Below.refl _ _) _⟩
            · go_wp2
              go_ret
              exact ⟨_, rfl, by rw [show okPile _ _ _ _ = false from decide_eq_false (by omega)]; rfl, below_alloc (Below.refl _ _) _⟩
          · go_wp2
            go_ret
            exact ⟨_, rfl, by rw [show okPile _ _ _ _ = false from decide_eq_false (by omega)]; rfl, below_alloc (Below.refl _ _) _⟩
        · go_wp2
          go_ret
          exact ⟨_, rfl, by rw [show okPile _ _ _ _ = false from decide_eq_false (by omega)]; rfl, below_alloc (Below.refl _ _) _⟩
      · go_wp2
        go_ret
        exact ⟨_, rfl, by rw [show okPile _ _ _ _ = false from decide_eq_false (by omega)]; rfl, below_alloc (Below.refl _ _) _⟩
    · go_wp2
      go_ret
      exact ⟨_, rfl, by rw [show okPile _ _ _ _ = false from decide_eq_false (by omega)]; rfl, below_alloc (Below.refl _ _) _⟩
  · go_wp2
    go_ret
    exact ⟨_, rfl, by rw [show okPile _ _ _ _ = false from decide_eq_false (by omega)]; rfl, below_alloc (Below.refl _ _) _⟩
set_option maxRecDepth 100000 in
set_option maxHeartbeats 2000000 in
theorem rcort_c (k key val tall : Int) (w : World) :
    Calls Tryd.prog 48 #[.agg #[.int .i64 k, .int .i64 key, .int .i64 val, .int .i64 tall]] w fun e w' => ∃ p, e = .returned (.pointer p) ∧ (p.isSome = okCort k key val tall) ∧ Below w.heap.size w w' := by
  have hu := Tryd.underlying35
  have HB0 := Aside0.mk (below_alloc (Below.refl w.heap.size w) (.cells #[.int .i64 k, .int .i64 key, .int .i64 val, .int .i64 tall] 35))
  go_enter Tryd.func48, Tryd.ntmps48
  by_cases c1 : 4 ≤ k
  · by_cases c2 : k ≤ 5
    · by_cases c3 : key = 0
      · subst c3
        by_cases c4 : tall = 0
        · subst c4
          by_cases c5 : 0 ≤ val
          · by_cases c6 : val ≤ 1073741824
            · by_cases d1 : k = 4
              · subst d1
                go_wp2
                go_ret
                exact ⟨_, rfl, by rw [show okCort _ _ _ _ = true from decide_eq_true (by omega)]; rfl, below_alloc (below_alloc (Below.refl _ _) _) _⟩
              · have d3 : (k != 4) = true := by simp [d1]
                by_cases d2 : val = 0
                · subst d2
                  go_wp2
                  go_ret
                  exact ⟨_, rfl, by rw [show okCort _ _ _ _ = true from decide_eq_true (by omega)]; rfl, below_alloc (below_alloc (Below.refl _ _) _) _⟩
                · have d4 : (val != 0) = true := by simp [d2]
                  go_wp2
                  go_ret
                  exact ⟨_, rfl, by rw [show okCort _ _ _ _ = false from decide_eq_false (by omega)]; rfl, below_alloc (Below.refl _ _) _⟩
            · go_wp2
              go_ret
              exact ⟨_, rfl, by rw [show okCort _ _ _ _ = false from decide_eq_false (by omega)]; rfl, below_alloc (Below.refl _ _) _⟩
          · go_wp2
            go_ret
            exact ⟨_, rfl, by rw [show okCort _ _ _ _ = false from decide_eq_false (by omega)]; rfl, below_alloc (Below.refl _ _) _⟩
        · go_wp2
          go_ret
          exact ⟨_, rfl, by rw [show okCort _ _ _ _ = false from decide_eq_false (by omega)]; rfl, below_alloc (Below.refl _ _) _⟩
      · go_wp2
        go_ret
        exact ⟨_, rfl, by rw [show okCort _ _ _ _ = false from decide_eq_false (by omega)]; rfl, below_alloc (Below.refl _ _) _⟩
    · go_wp2
      go_ret
      exact ⟨_, rfl, by rw [show okCort _ _ _ _ = false from decide_eq_false (by omega)]; rfl, below_alloc (Below.refl _ _) _⟩
  · go_wp2
    go_ret
    exact ⟨_, rfl, by rw [show okCort _ _ _ _ = false from decide_eq_false (by omega)]; rfl, below_alloc (Below.refl _ _) _⟩
set_option maxRecDepth 100000 in
set_option maxHeartbeats 2000000 in
theorem rkey_c (k key val tall : Int) (w : World) :
    Calls Tryd.prog 49 #[.agg #[.int .i64 k, .int .i64 key, .int .i64 val, .int .i64 tall]] w fun e w' => e = .returned (.bool (okKey k key val tall)) ∧ Below w.heap.size w w' := by
  have hu := Tryd.underlying35
  have HB0 := Aside0.mk (below_alloc (Below.refl w.heap.size w) (.cells #[.int .i64 k, .int .i64 key, .int .i64 val, .int .i64 tall] 35))
  go_enter Tryd.func49, Tryd.ntmps49
  by_cases c1 : 6 ≤ k
  · by_cases c2 : k ≤ 8
    · by_cases c3 : 0 ≤ key
      · by_cases c4 : key ≤ 255
        · by_cases d0 : k = 6
          · subst d0
            by_cases c1 : 0 ≤ val
            · by_cases c2 : val ≤ 1073741824
              · by_cases c3 : 0 ≤ tall
                · by_cases c4 : tall ≤ 3
                  · go_wp2
                    go_ret
                    exact ⟨ret_bool (by rw [Bool.eq_iff_iff]; simp [okKey]; try omega), below_alloc (Below.refl _ _) _⟩
                  · go_wp2
                    go_ret
                    exact ⟨ret_bool (by rw [Bool.eq_iff_iff]; simp [okKey]; try omega), below_alloc (Below.refl _ _) _⟩
                · go_wp2
                  go_ret
                  exact ⟨ret_bool (by rw [Bool.eq_iff_iff]; simp [okKey]; try omega), below_alloc (Below.refl _ _) _⟩
              · go_wp2
                go_ret
                exact ⟨ret_bool (by rw [Bool.eq_iff_iff]; simp [okKey]; try omega), below_alloc (Below.refl _ _) _⟩
            · go_wp2
              go_ret
              exact ⟨ret_bool (by rw [Bool.eq_iff_iff]; simp [okKey]; try omega), below_alloc (Below.refl _ _) _⟩
          · by_cases c1 : val = 0
            · subst c1
              by_cases c2 : tall = 0
              · subst c2
                go_wp2
                go_ret
                exact ⟨ret_bool (by rw [Bool.eq_iff_iff]; simp [okKey]; try omega), below_alloc (Below.refl _ _) _⟩
              · go_wp2
                go_ret
                exact ⟨ret_bool (by rw [Bool.eq_iff_iff]; simp [okKey]; try omega), below_alloc (Below.refl _ _) _⟩
            · go_wp2
              go_ret
              exact ⟨ret_bool (by rw [Bool.eq_iff_iff]; simp [okKey]; try omega), below_alloc (Below.refl _ _) _⟩
        · go_wp2
          go_ret
          exact ⟨ret_bool (by rw [Bool.eq_iff_iff]; simp [okKey]; try omega), below_alloc (Below.refl _ _) _⟩
      · go_wp2
        go_ret
        exact ⟨ret_bool (by rw [Bool.eq_iff_iff]; simp [okKey]; try omega), below_alloc (Below.refl _ _) _⟩
    · go_wp2
      go_ret
      exact ⟨ret_bool (by rw [Bool.eq_iff_iff]; simp [okKey]; try omega), below_alloc (Below.refl _ _) _⟩
  · go_wp2
    go_ret
    exact ⟨ret_bool (by rw [Bool.eq_iff_iff]; simp [okKey]; try omega), below_alloc (Below.refl _ _) _⟩
set_option maxRecDepth 100000 in
set_option maxHeartbeats 2000000 in
theorem rstee_c (k key val tall : Int) (w : World) :
    Calls Tryd.prog 50 #[.agg #[.int .i64 k, .int .i64 key, .int .i64 val, .int .i64 tall]] w fun e w' => e = .returned (.bool (okKey k key val tall && !decide (k = 6 ∧ tall = 0))) ∧ Below w.heap.size w w' := by
  have hu := Tryd.underlying35
  have HB0 := Aside0.mk (below_alloc (Below.refl w.heap.size w) (.cells #[.int .i64 k, .int .i64 key, .int .i64 val, .int .i64 tall] 35))
  go_enter Tryd.func50, Tryd.ntmps50
  by_cases c1 : 6 ≤ k
  · by_cases c2 : k ≤ 8
    · by_cases c3 : 0 ≤ key
      · by_cases c4 : key ≤ 255
        · by_cases d0 : k = 6
          · subst d0
            by_cases c1 : 0 ≤ val
            · by_cases c2 : val ≤ 1073741824
              · by_cases c3 : 1 ≤ tall
                · by_cases c4 : tall ≤ 3
                  · go_wp2
                    go_ret
                    exact ⟨ret_bool (by rw [Bool.eq_iff_iff]; simp [okKey]; try omega), below_alloc (Below.refl _ _) _⟩
                  · go_wp2
                    go_ret
                    exact ⟨ret_bool (by rw [Bool.eq_iff_iff]; simp [okKey]; try omega), below_alloc (Below.refl _ _) _⟩
                · go_wp2
                  go_ret
                  exact ⟨ret_bool (by rw [Bool.eq_iff_iff]; simp [okKey]; try omega), below_alloc (Below.refl _ _) _⟩
              · go_wp2
                go_ret
                exact ⟨ret_bool (by rw [Bool.eq_iff_iff]; simp [okKey]; try omega), below_alloc (Below.refl _ _) _⟩
            · go_wp2
              go_ret
              exact ⟨ret_bool (by rw [Bool.eq_iff_iff]; simp [okKey]; try omega), below_alloc (Below.refl _ _) _⟩
          · by_cases c1 : val = 0
            · subst c1
              by_cases c2 : tall = 0
              · subst c2
                go_wp2
                go_ret
                exact ⟨ret_bool (by rw [Bool.eq_iff_iff]; simp [okKey]; try omega), below_alloc (Below.refl _ _) _⟩
              · go_wp2
                go_ret
                exact ⟨ret_bool (by rw [Bool.eq_iff_iff]; simp [okKey]; try omega), below_alloc (Below.refl _ _) _⟩
            · go_wp2
              go_ret
              exact ⟨ret_bool (by rw [Bool.eq_iff_iff]; simp [okKey]; try omega), below_alloc (Below.refl _ _) _⟩
        · go_wp2
          go_ret
          exact ⟨ret_bool (by rw [Bool.eq_iff_iff]; simp [okKey]; try omega), below_alloc (Below.refl _ _) _⟩
      · go_wp2
        go_ret
        exact ⟨ret_bool (by rw [Bool.eq_iff_iff]; simp [okKey]; try omega), below_alloc (Below.refl _ _) _⟩
    · go_wp2
      go_ret
      exact ⟨ret_bool (by rw [Bool.eq_iff_iff]; simp [okKey]; try omega), below_alloc (Below.refl _ _) _⟩
  · go_wp2
    go_ret
    exact ⟨ret_bool (by rw [Bool.eq_iff_iff]; simp [okKey]; try omega), below_alloc (Below.refl _ _) _⟩
set_option maxRecDepth 100000 in
set_option maxHeartbeats 2000000 in
theorem rconf_c (st en th sl no : Int) (w : World) : Calls Tryd.prog 41 #[.agg #[.int .i64 st, .int .i64 en, .int .i64 th, .int .i64 sl, .int .i64 no]] w fun e w' => e = .returned (.bool (okConf ⟨st, en, th, sl, no⟩)) ∧ Below w.heap.size w w' := by
  have hu := Tryd.underlying24
  have HB0 := Aside0.mk (below_alloc (Below.refl w.heap.size w) (.cells #[.int .i64 st, .int .i64 en, .int .i64 th, .int .i64 sl, .int .i64 no] 24))
  go_enter Tryd.func41, Tryd.ntmps41
  by_cases c1 : 1 ≤ st
  · by_cases c2 : st ≤ 5
    · by_cases c3 : 1 ≤ en
      · by_cases c4 : en ≤ 5
        · by_cases c5 : 1 ≤ th
          · by_cases c6 : th ≤ 6
            · by_cases c7 : 0 ≤ sl
              · by_cases c8 : sl ≤ 1024
                · by_cases c9 : 1 ≤ no
                  · by_cases c10 : no ≤ 64
                    · go_wp2
                      go_ret
                      exact ⟨by rw [show okConf ⟨st, en, th, sl, no⟩ = true from decide_eq_true (by simp only []; omega)]; rfl, below_alloc (Below.refl _ _) _⟩
                    · go_wp2
                      go_ret
                      exact ⟨by rw [show okConf ⟨st, en, th, sl, no⟩ = false from decide_eq_false (by simp only []; omega)]; rfl, below_alloc (Below.refl _ _) _⟩
                  · go_wp2
                    go_ret
                    exact ⟨by rw [show okConf ⟨st, en, th, sl, no⟩ = false from decide_eq_false (by simp only []; omega)]; rfl, below_alloc (Below.refl _ _) _⟩
                · go_wp2
                  go_ret
                  exact ⟨by rw [show okConf ⟨st, en, th, sl, no⟩ = false from decide_eq_false (by simp only []; omega)]; rfl, below_alloc (Below.refl _ _) _⟩
              · go_wp2
                go_ret
                exact ⟨by rw [show okConf ⟨st, en, th, sl, no⟩ = false from decide_eq_false (by simp only []; omega)]; rfl, below_alloc (Below.refl _ _) _⟩
            · go_wp2
              go_ret
              exact ⟨by rw [show okConf ⟨st, en, th, sl, no⟩ = false from decide_eq_false (by simp only []; omega)]; rfl, below_alloc (Below.refl _ _) _⟩
          · go_wp2
            go_ret
            exact ⟨by rw [show okConf ⟨st, en, th, sl, no⟩ = false from decide_eq_false (by simp only []; omega)]; rfl, below_alloc (Below.refl _ _) _⟩
        · go_wp2
          go_ret
          exact ⟨by rw [show okConf ⟨st, en, th, sl, no⟩ = false from decide_eq_false (by simp only []; omega)]; rfl, below_alloc (Below.refl _ _) _⟩
      · go_wp2
        go_ret
        exact ⟨by rw [show okConf ⟨st, en, th, sl, no⟩ = false from decide_eq_false (by simp only []; omega)]; rfl, below_alloc (Below.refl _ _) _⟩
    · go_wp2
      go_ret
      exact ⟨by rw [show okConf ⟨st, en, th, sl, no⟩ = false from decide_eq_false (by simp only []; omega)]; rfl, below_alloc (Below.refl _ _) _⟩
  · go_wp2
    go_ret
    exact ⟨by rw [show okConf ⟨st, en, th, sl, no⟩ = false from decide_eq_false (by simp only []; omega)]; rfl, below_alloc (Below.refl _ _) _⟩
set_option maxRecDepth 100000 in
set_option maxHeartbeats 2000000 in
theorem rfits_c (st k key val tall : Int) (w : World) :
    Calls Tryd.prog 42 #[.int .i64 st, .agg #[.int .i64 k, .int .i64 key, .int .i64 val, .int .i64 tall]] w fun e w' => e = .returned (.bool (fits st ⟨k, key, val, tall⟩)) ∧ Below w.heap.size w w' := by
  have hu := Tryd.underlying35
  have HX := Aside0.mk (blk_new w (.cells #[.int .i64 k, .int .i64 key, .int .i64 val, .int .i64 tall] 35))
  have HB0 := Aside0.mk (below_alloc (Below.refl w.heap.size w) (.cells #[.int .i64 k, .int .i64 key, .int .i64 val, .int .i64 tall] 35))
  by_cases e1 : st = 1
  · subst e1
    go_enter Tryd.func42, Tryd.ntmps42
    go_wp2_with fail
    refine (rpile_c k key val tall _).mono ?_
    rintro e w1 ⟨p, rfl, hp, hb⟩
    replace HB0 := Aside0.mk (below_step HB0.out hb)
    clear hb HX
    have HP : Aside0 (fits 1 ⟨k, key, val, tall⟩ = p.isSome) := Aside0.mk (by rw [hp]; simp [fits])
    clear hp
    cases p
    · go_wp2
      go_ret
      exact ⟨ret_bool (by rw [HP.out]; rfl), HB0.out⟩
    · go_wp2
      go_ret
      exact ⟨ret_bool (by rw [HP.out]; rfl), HB0.out⟩
  · by_cases e2 : st = 2
    · subst e2
      go_enter Tryd.func42, Tryd.ntmps42
      go_wp2_with fail
      refine (rcort_c k key val tall _).mono ?_
      rintro e w1 ⟨p, rfl, hp, hb⟩
      replace HB0 := Aside0.mk (below_step HB0.out hb)
      clear hb HX
      have HP : Aside0 (fits 2 ⟨k, key, val, tall⟩ = p.isSome) := Aside0.mk (by rw [hp]; simp [fits])
      clear hp
      cases p
      · go_wp2
        go_ret
        exact ⟨ret_bool (by rw [HP.out]; rfl), HB0.out⟩
      · go_wp2
        go_ret
        exact ⟨ret_bool (by rw [HP.out]; rfl), HB0.out⟩
    · by_cases e3 : st = 3
      · subst e3
        have HP : Aside0 (fits 3 ⟨k, key, val, tall⟩ = (okKey k key val tall && decide (tall = 0))) := Aside0.mk (by simp [fits])
        obtain ⟨b, hbb⟩ : ∃ b, b = okKey k key val tall := ⟨_, rfl⟩
        rw [HP.out]
        rw [← hbb]
        have HBB := Aside0.mk hbb
        clear HP hbb
        go_enter Tryd.func42, Tryd.ntmps42
        go_wp2_with fail
        refine (rkey_c k key val tall _).mono ?_
        rintro e w1 ⟨rfl, hb⟩
        replace HB0 := Aside0.mk (below_step HB0.out hb)
        have c3 := (blk_cell (blk_below hb HX.out) 3).trans rfl
        rw [← HBB.out]
        clear hb HX HBB
        cases b
        · go_wp2
          go_ret
          exact ⟨rfl, HB0.out⟩
        · by_cases h : tall = 0
          · subst h
            go_wp2
            go_ret
            exact ⟨rfl, HB0.out⟩
          · have h2 : decide (tall = 0) = false := decide_eq_false h
            go_wp2
            go_ret
            exact ⟨ret_bool (by simp [h]), HB0.out⟩
      · by_cases e4 : st = 4
        · subst e4
          have HP : Aside0 (fits 4 ⟨k, key, val, tall⟩ = (okKey k key val tall && decide (tall = 0))) := Aside0.mk (by simp [fits])
          obtain ⟨b, hbb⟩ : ∃ b, b = okKey k key val tall := ⟨_, rfl⟩
          rw [HP.out]
          rw [← hbb]
          have HBB := Aside0.mk hbb
          clear HP hbb
          go_enter Tryd.func42, Tryd.ntmps42
          go_wp2_with fail
          refine (rkey_c k key val tall _).mono ?_
          rintro e w1 ⟨rfl, hb⟩
          replace HB0 := Aside0.mk (below_step HB0.out hb)
          have c3 := (blk_cell (blk_below hb HX.out) 3).trans rfl
          rw [← HBB.out]
          clear hb HX HBB
          cases b
          · go_wp2
            go_ret
            exact ⟨rfl, HB0.out⟩
          · by_cases h : tall = 0
            · subst h
              go_wp2
              go_ret
              exact ⟨rfl, HB0.out⟩
            · have h2 : decide (tall = 0) = false := decide_eq_false h
              go_wp2
              go_ret
              exact ⟨ret_bool (by simp [h]), HB0.out⟩
        · by_cases e5 : st = 5
          · subst e5
            go_enter Tryd.func42, Tryd.ntmps42
            go_wp2_with fail
            refine (rstee_c k key val tall _).mono ?_
            rintro e w1 ⟨rfl, hb⟩
            replace HB0 := Aside0.mk (below_step HB0.out hb)
            clear hb HX
            have HP : Aside0 (fits 5 ⟨k, key, val, tall⟩ = (okKey k key val tall && !decide (k = 6 ∧ tall = 0))) := Aside0.mk (by simp [fits])
            go_wp2
            go_ret
            exact ⟨ret_bool (by rw [HP.out]; simp), HB0.out⟩
          · go_enter Tryd.func42, Tryd.ntmps42
            go_wp2
            go_ret
            exact ⟨by rw [show fits st ⟨k, key, val, tall⟩ = false by simp [fits, e1, e2, e3, e4, e5]]; rfl, HB0.out⟩
end Go.Proofs.YtlcfkdglknkbdaaDoor.Lo
