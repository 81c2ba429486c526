/- creed's Fits, parish's Good: what they answer. -/
import Derived.Test.YtlcfkdglknkbdaaDoorLoC
namespace Go.Proofs.YtlcfkdglknkbdaaDoor.Lo
open Go.RowKit Go.Proofs.YtlcfkdglknkbdaaDoorW.PrintWords Go.Proofs.YtlcfkdglknkbdaaDoorW.PrintLast Go.Proofs.YtlcfkdglknkbdaaDoorW.PrintMore Go.Proofs.YtlcfkdglknkbdaaDoor.X
set_option linter.unusedVariables false
set_option linter.unusedSimpArgs false

/-- An error at a place that wraps the sentinel at a. -/
def Ats (w : World) (a : Addr) (v : Value) : Prop := ∃ (g : Nat) (p : Int), v = AtPlace g ∧ w.heap[g]? = some (.cells #[.int .i64 p, Sent a] 88 (0, 0))
theorem Ats_below {w w1 : World} {a : Addr} {v : Value} (h : Ats w a v) (hb : Below w.heap.size w w1) : Ats w1 a v := by
  obtain ⟨g, p, e, h⟩ := h
  exact ⟨g, p, e, blk_below hb h⟩
theorem at_s (n : Int) (a : Addr) (w : World) : Calls Tryd.prog 22 #[.int .i64 n, Sent a] w fun e w' => ∃ v, e = .returned v ∧ Ats w' a v ∧ Below w.heap.size w w' := by
  refine (at_c n a w).mono ?_
  rintro e w1 ⟨g, rfl, h, hb⟩
  exact ⟨_, rfl, ⟨g, n, rfl, h⟩, hb⟩
theorem is_s {a : Addr} {v : Value} {w : World} (h : Ats w a v) : Calls Tryd.prog 16 #[v, Sent a] w fun e w' => e = .returned (.bool true) ∧ Below w.heap.size w w' := by
  obtain ⟨g, p, rfl, h⟩ := h
  refine (is_woe g a w ((blk_cell h 1).trans rfl)).mono ?_
  rintro e w1 ⟨rfl, rfl⟩
  exact ⟨rfl, Below.refl _ _⟩
abbrev gArg : Addr := ⟨0, 0, none⟩
/-- Nil, or an error. -/
def OkE (w : World) (a : Addr) (v : Value) (b : Bool) : Prop := (b = true ∧ v = .nilIface) ∨ (b = false ∧ Ats w a v)

theorem within_c (n a b : Int) (w : World) : Calls Tryd.prog 31 #[.int .i64 n, .int .i64 a, .int .i64 b] w fun e w' => e = .returned (.bool (decide (a ≤ n ∧ n ≤ b))) ∧ Below w.heap.size w w' := by
  go_enter Tryd.func31, Tryd.ntmps31
  go_wp2
  all_goals
    go_ret
    refine ⟨ret_bool ?_, Below.refl _ _⟩
    simp
    try omega
theorem lwithin_c (n b : Int) (w : World) : Calls Tryd.prog 52 #[.int .i64 n, .int .i64 b] w fun e w' => e = .returned (.bool (decide (0 ≤ n ∧ n ≤ b))) ∧ Below w.heap.size w w' := by
  go_enter Tryd.func52, Tryd.ntmps52
  go_wp2
  all_goals
    go_ret
    refine ⟨ret_bool ?_, Below.refl _ _⟩
    simp
    try omega
theorem bbelow_c (n m : Int) (w : World) : Calls Tryd.prog 51 #[.int .i64 n, .int .i64 m] w fun e w' => e = .returned (.bool (decide (0 ≤ n ∧ n < m))) ∧ Below w.heap.size w w' := by
  go_enter Tryd.func51, Tryd.ntmps51
  go_wp2
  all_goals
    go_ret
    refine ⟨ret_bool ?_, Below.refl _ _⟩
    simp
    try omega
abbrev tAddr : Nat := 102
abbrev fld (n : Int) : Value := .agg #[.int .i64 0, .int .i64 0, .int .i64 n]
theorem res_addr {fn : Func} {a : Act} {w : World} {g : Nat} {t t' : Tmp} {x0 x1 x2 v : Value} (hres : fn.results = #[.cell t 102, .tmp t']) (ht : a.tmps[t]? = some (.pointer (some ⟨g, 0, none⟩))) (hv : a.tmps[t']? = some v)
    (hx : w.heap[g]? = some (.cells #[x0, x1, x2] 102 (0, 0))) : (results fn a.tmps).run Tryd.prog w = .ok (.tuple #[.agg #[x0, x1, x2], v]) w := by
  have hu := Tryd.underlying102
  have y0 : w.cell? ⟨g, 0, none⟩ = some x0 := (blk_cell hx 0).trans rfl
  have y1 : w.cell? ⟨g, 1, none⟩ = some x1 := (blk_cell hx 1).trans rfl
  have y2 : w.cell? ⟨g, 2, none⟩ = some x2 := (blk_cell hx 2).trans rfl
  simp [results, hres, go_sem, ht, hv, y0, y1, y2]
theorem blk_set' {w : World} {r o : Nat} {cs : Array Value} {t : TypeId} (h : w.heap[r]? = some (.cells cs t (0, 0))) (v : Value) : (w.setCell ⟨r, o, none⟩ v).heap[r]? = some (.cells (cs.setIfInBounds o v) t (0, 0)) := by
  rw [heap_setCell_same w r o _ t v h]
theorem root_ok (n : Int) (w : World) (h : 0 ≤ n ∧ n < 24) : Calls Tryd.prog 44 #[.int .i64 n] w fun e w' => e = .returned (.tuple #[fld n, .nilIface]) ∧ Below w.heap.size w w' := by
  have hu := Tryd.underlying102
  go_enter Tryd.func44, Tryd.ntmps44
  go_wp2_with fail
  refine (bbelow_c n 24 _).mono ?_
  rintro e w1 ⟨rfl, hb⟩
  rw [decide_eq_true h]
  have hx : w1.heap[w.heap.size]? = some (.cells #[.int .i64 0, .int .i64 0, .int .i64 0] 102 (0, 0)) := blk_below hb (blk_new _ _)
  have hx0 := (blk_cell hx 0).trans rfl
  have hx1 := (blk_cell hx 1).trans rfl
  have hx2 := (blk_cell hx 2).trans rfl
  have hf0 := blk_frozen hx 0
  have hf1 := blk_frozen hx 1
  have hf2 := blk_frozen hx 2
  have hb := below_step (below_alloc (Below.refl _ _) _) hb
  go_wp2
  exact bodyPost_ret (res_addr (x0 := .int .i64 0) (x1 := .int .i64 0) (x2 := .int .i64 n) Tryd.results44 rfl rfl (blk_set' (blk_set' (blk_set' hx _) _) _)) rfl ⟨rfl, below_set (below_set (below_set hb (Nat.le_refl _)) (Nat.le_refl _)) (Nat.le_refl _)⟩

def okPile (k key val tall : Int) : Bool := decide ((k = 1 ∨ (k = 2 ∨ k = 3) ∧ val = 0) ∧ key = 0 ∧ tall = 0 ∧ 0 ≤ val ∧ val ≤ 1073741824)
def okCort (k key val tall : Int) : Bool := decide ((k = 4 ∨ k = 5 ∧ val = 0) ∧ key = 0 ∧ tall = 0 ∧ 0 ≤ val ∧ val ≤ 1073741824)
def okKey (k key val tall : Int) : Bool := decide ((k = 6 ∨ (k = 7 ∨ k = 8) ∧ val = 0 ∧ tall = 0) ∧ 0 ≤ key ∧ key ≤ 255 ∧ 0 ≤ val ∧ val ≤ 1073741824 ∧ 0 ≤ tall ∧ tall ≤ 3)

set_option maxRecDepth 100000 in
set_option maxHeartbeats 2000000 in
theorem pile_c (k key val tall : Int) (aA : Addr) (w : World) (hA : w.cell? gArg = some (Sent aA)) :
    Calls Tryd.prog 32 #[.agg #[.int .i64 k, .int .i64 key, .int .i64 val, .int .i64 tall]] w fun e w' => ∃ p v, e = .returned (.tuple #[.pointer p, v]) ∧ OkE w' aA v (okPile k key val tall) ∧ Below w.heap.size w w' := by
  have hu := Tryd.underlying35
  have hb0 := below_alloc (Below.refl w.heap.size w) (.cells #[.int .i64 k, .int .i64 key, .int .i64 val, .int .i64 tall] 35)
  have hA1 := pw_cell_below hb0 hA
  have HB0 := Aside0.mk hb0
  clear hb0 hA
  go_enter Tryd.func32, Tryd.ntmps32
  by_cases e1 : k = 1
  · subst e1
    by_cases h1 : key = 0
    · subst h1
      by_cases h2 : tall = 0
      · subst h2
        by_cases h3 : 0 ≤ val
        · by_cases h4 : val ≤ 1073741824
          · go_wp2
            go_ret2
            exact ⟨_, _, rfl, Or.inl ⟨decide_eq_true (by omega), rfl⟩, below_alloc (below_alloc (Below.refl _ _) _) _⟩
          · go_wp2_with fail
            refine (at_s _ aA _).mono ?_
            rintro e w1 ⟨v, rfl, hv, hb⟩
            have HV := Aside0.mk hv
            have HB1 := Aside0.mk (below_step HB0.out hb)
            clear hv hb HB0 hA1
            go_wp2
            go_ret2
            exact ⟨_, _, rfl, Or.inr ⟨decide_eq_false (by omega), HV.out⟩, HB1.out⟩
        · go_wp2_with fail
          refine (at_s _ aA _).mono ?_
          rintro e w1 ⟨v, rfl, hv, hb⟩
          have HV := Aside0.mk hv
          have HB1 := Aside0.mk (below_step HB0.out hb)
          clear hv hb HB0 hA1
          go_wp2
          go_ret2
          exact ⟨_, _, rfl, Or.inr ⟨decide_eq_false (by omega), HV.out⟩, HB1.out⟩
      · go_wp2_with fail
        refine (at_s _ aA _).mono ?_
        rintro e w1 ⟨v, rfl, hv, hb⟩
        have HV := Aside0.mk hv
        have HB1 := Aside0.mk (below_step HB0.out hb)
        clear hv hb HB0 hA1
        go_wp2
        go_ret2
        exact ⟨_, _, rfl, Or.inr ⟨decide_eq_false (by omega), HV.out⟩, HB1.out⟩
    · go_wp2_with fail
      refine (at_s _ aA _).mono ?_
      rintro e w1 ⟨v, rfl, hv, hb⟩
      have HV := Aside0.mk hv
      have HB1 := Aside0.mk (below_step HB0.out hb)
      clear hv hb HB0 hA1
      go_wp2
      go_ret2
      exact ⟨_, _, rfl, Or.inr ⟨decide_eq_false (by omega), HV.out⟩, HB1.out⟩
  · by_cases e3 : k = 3
    · subst e3
      by_cases h0 : val = 0
      · subst h0
        by_cases h1 : key = 0
        · subst h1
          by_cases h2 : tall = 0
          · subst h2
            go_wp2
            go_ret2
            exact ⟨_, _, rfl, Or.inl ⟨decide_eq_true (by omega), rfl⟩, below_alloc (below_alloc (Below.refl _ _) _) _⟩
          · go_wp2_with fail
            refine (at_s _ aA _).mono ?_
            rintro e w1 ⟨v, rfl, hv, hb⟩
            have HV := Aside0.mk hv
            have HB1 := Aside0.mk (below_step HB0.out hb)
            clear hv hb HB0 hA1
            go_wp2
            go_ret2
            exact ⟨_, _, rfl, Or.inr ⟨decide_eq_false (by omega), HV.out⟩, HB1.out⟩
        · go_wp2_with fail
          refine (at_s _ aA _).mono ?_
          rintro e w1 ⟨v, rfl, hv, hb⟩
          have HV := Aside0.mk hv
          have HB1 := Aside0.mk (below_step HB0.out hb)
          clear hv hb HB0 hA1
          go_wp2
          go_ret2
          exact ⟨_, _, rfl, Or.inr ⟨decide_eq_false (by omega), HV.out⟩, HB1.out⟩
      · go_wp2_with fail
        refine (at_s _ aA _).mono ?_
        rintro e w1 ⟨v, rfl, hv, hb⟩
        have HV := Aside0.mk hv
        have HB1 := Aside0.mk (below_step HB0.out hb)
        clear hv hb HB0 hA1
        go_wp2
        go_ret2
        exact ⟨_, _, rfl, Or.inr ⟨decide_eq_false (by omega), HV.out⟩, HB1.out⟩
    · by_cases e2 : k = 2
      · subst e2
        by_cases h0 : val = 0
        · subst h0
          by_cases h1 : key = 0
          · subst h1
            by_cases h2 : tall = 0
            · subst h2
              go_wp2
              go_ret2
              exact ⟨_, _, rfl, Or.inl ⟨decide_eq_true (by omega), rfl⟩, below_alloc (below_alloc (Below.refl _ _) _) _⟩
            · go_wp2_with fail
              refine (at_s _ aA _).mono ?_
              rintro e w1 ⟨v, rfl, hv, hb⟩
              have HV := Aside0.mk hv
              have HB1 := Aside0.mk (below_step HB0.out hb)
              clear hv hb HB0 hA1
              go_wp2
              go_ret2
              exact ⟨_, _, rfl, Or.inr ⟨decide_eq_false (by omega), HV.out⟩, HB1.out⟩
          · go_wp2_with fail
            refine (at_s _ aA _).mono ?_
            rintro e w1 ⟨v, rfl, hv, hb⟩
            have HV := Aside0.mk hv
            have HB1 := Aside0.mk (below_step HB0.out hb)
            clear hv hb HB0 hA1
            go_wp2
            go_ret2
            exact ⟨_, _, rfl, Or.inr ⟨decide_eq_false (by omega), HV.out⟩, HB1.out⟩
        · go_wp2_with fail
          refine (at_s _ aA _).mono ?_
          rintro e w1 ⟨v, rfl, hv, hb⟩
          have HV := Aside0.mk hv
          have HB1 := Aside0.mk (below_step HB0.out hb)
          clear hv hb HB0 hA1
          go_wp2
          go_ret2
          exact ⟨_, _, rfl, Or.inr ⟨decide_eq_false (by omega), HV.out⟩, HB1.out⟩
      · go_wp2_with fail
        refine (at_s _ aA _).mono ?_
        rintro e w1 ⟨v, rfl, hv, hb⟩
        have HV := Aside0.mk hv
        have HB1 := Aside0.mk (below_step HB0.out hb)
        clear hv hb HB0 hA1
        go_wp2
        go_ret2
        exact ⟨_, _, rfl, Or.inr ⟨decide_eq_false (by omega), HV.out⟩, HB1.out⟩
set_option maxRecDepth 100000 in
set_option maxHeartbeats 2000000 in
theorem cort_c (k key val tall : Int) (aA : Addr) (w : World) (hA : w.cell? gArg = some (Sent aA)) :
    Calls Tryd.prog 33 #[.agg #[.int .i64 k, .int .i64 key, .int .i64 val, .int .i64 tall]] w fun e w' => ∃ p v, e = .returned (.tuple #[.pointer p, v]) ∧ OkE w' aA v (okCort k key val tall) ∧ Below w.heap.size w w' := by
  have hu := Tryd.underlying35
  have hb0 := below_alloc (Below.refl w.heap.size w) (.cells #[.int .i64 k, .int .i64 key, .int .i64 val, .int .i64 tall] 35)
  have hA1 := pw_cell_below hb0 hA
  have HB0 := Aside0.mk hb0
  clear hb0 hA
  go_enter Tryd.func33, Tryd.ntmps33
  by_cases e4 : k = 4
  · subst e4
    by_cases h1 : key = 0
    · subst h1
      by_cases h2 : tall = 0
      · subst h2
        by_cases h3 : 0 ≤ val
        · by_cases h4 : val ≤ 1073741824
          · go_wp2
            go_ret2
            exact ⟨_, _, rfl, Or.inl ⟨decide_eq_true (by omega), rfl⟩, below_alloc (below_alloc (Below.refl _ _) _) _⟩
          · go_wp2_with fail
            refine (at_s _ aA _).mono ?_
            rintro e w1 ⟨v, rfl, hv, hb⟩
            have HV := Aside0.mk hv
            have HB1 := Aside0.mk (below_step HB0.out hb)
            clear hv hb HB0 hA1
            go_wp2
            go_ret2
            exact ⟨_, _, rfl, Or.inr ⟨decide_eq_false (by omega), HV.out⟩, HB1.out⟩
        · go_wp2_with fail
          refine (at_s _ aA _).mono ?_
          rintro e w1 ⟨v, rfl, hv, hb⟩
          have HV := Aside0.mk hv
          have HB1 := Aside0.mk (below_step HB0.out hb)
          clear hv hb HB0 hA1
          go_wp2
          go_ret2
          exact ⟨_, _, rfl, Or.inr ⟨decide_eq_false (by omega), HV.out⟩, HB1.out⟩
      · go_wp2_with fail
        refine (at_s _ aA _).mono ?_
        rintro e w1 ⟨v, rfl, hv, hb⟩
        have HV := Aside0.mk hv
        have HB1 := Aside0.mk (below_step HB0.out hb)
        clear hv hb HB0 hA1
        go_wp2
        go_ret2
        exact ⟨_, _, rfl, Or.inr ⟨decide_eq_false (by omega), HV.out⟩, HB1.out⟩
    · go_wp2_with fail
      refine (at_s _ aA _).mono ?_
      rintro e w1 ⟨v, rfl, hv, hb⟩
      have HV := Aside0.mk hv
      have HB1 := Aside0.mk (below_step HB0.out hb)
      clear hv hb HB0 hA1
      go_wp2
      go_ret2
      exact ⟨_, _, rfl, Or.inr ⟨decide_eq_false (by omega), HV.out⟩, HB1.out⟩
  · by_cases e5 : k = 5
    · subst e5
      by_cases h0 : val = 0
      · subst h0
        by_cases h1 : key = 0
        · subst h1
          by_cases h2 : tall = 0
          · subst h2
            go_wp2
            go_ret2
            exact ⟨_, _, rfl, Or.inl ⟨decide_eq_true (by omega), rfl⟩, below_alloc (below_alloc (Below.refl _ _) _) _⟩
          · go_wp2_with fail
            refine (at_s _ aA _).mono ?_
            rintro e w1 ⟨v, rfl, hv, hb⟩
            have HV := Aside0.mk hv
            have HB1 := Aside0.mk (below_step HB0.out hb)
            clear hv hb HB0 hA1
            go_wp2
            go_ret2
            exact ⟨_, _, rfl, Or.inr ⟨decide_eq_false (by omega), HV.out⟩, HB1.out⟩
        · go_wp2_with fail
          refine (at_s _ aA _).mono ?_
          rintro e w1 ⟨v, rfl, hv, hb⟩
          have HV := Aside0.mk hv
          have HB1 := Aside0.mk (below_step HB0.out hb)
          clear hv hb HB0 hA1
          go_wp2
          go_ret2
          exact ⟨_, _, rfl, Or.inr ⟨decide_eq_false (by omega), HV.out⟩, HB1.out⟩
      · go_wp2_with fail
        refine (at_s _ aA _).mono ?_
        rintro e w1 ⟨v, rfl, hv, hb⟩
        have HV := Aside0.mk hv
        have HB1 := Aside0.mk (below_step HB0.out hb)
        clear hv hb HB0 hA1
        go_wp2
        go_ret2
        exact ⟨_, _, rfl, Or.inr ⟨decide_eq_false (by omega), HV.out⟩, HB1.out⟩
    · go_wp2_with fail
      refine (at_s _ aA _).mono ?_
      rintro e w1 ⟨v, rfl, hv, hb⟩
      have HV := Aside0.mk hv
      have HB1 := Aside0.mk (below_step HB0.out hb)
      clear hv hb HB0 hA1
      go_wp2
      go_ret2
      exact ⟨_, _, rfl, Or.inr ⟨decide_eq_false (by omega), HV.out⟩, HB1.out⟩
set_option maxRecDepth 100000 in
set_option maxHeartbeats 2000000 in
theorem lgood_c (k key val tall : Int) (w : World) :
    Calls Tryd.prog 45 #[.agg #[.int .i64 k, .int .i64 key, .int .i64 val, .int .i64 tall]] w fun e w' => e = .returned (.bool (okKey k key val tall)) ∧ Below w.heap.size w w' := by
  have hu := Tryd.underlying35
  have HX := Aside0.mk (blk_new w (.cells #[.int .i64 k, .int .i64 key, .int .i64 val, .int .i64 tall] 35))
  have HB0 := Aside0.mk (below_alloc (Below.refl w.heap.size w) (.cells #[.int .i64 k, .int .i64 key, .int .i64 val, .int .i64 tall] 35))
  go_enter Tryd.func45, Tryd.ntmps45
  by_cases e6 : k = 6
  · subst e6
    by_cases h1 : 0 ≤ key ∧ key ≤ 255
    · go_wp2_with fail
      refine (lwithin_c _ _ _).mono ?_
      rintro e w1 ⟨rfl, hb⟩
      rw [decide_eq_true h1]
      replace HX := Aside0.mk (blk_below hb HX.out)
      replace HB0 := Aside0.mk (below_step HB0.out hb)
      have c2 := (blk_cell HX.out 2).trans rfl
      have c3 := (blk_cell HX.out 3).trans rfl
      clear hb
      by_cases h2 : 0 ≤ val ∧ val ≤ 1073741824
      · go_wp2_with fail
        refine (lwithin_c _ _ _).mono ?_
        rintro e w1 ⟨rfl, hb⟩
        rw [decide_eq_true h2]
        replace HX := Aside0.mk (blk_below hb HX.out)
        replace HB0 := Aside0.mk (below_step HB0.out hb)
        have c2 := (blk_cell HX.out 2).trans rfl
        have c3 := (blk_cell HX.out 3).trans rfl
        clear hb
        by_cases h3 : 0 ≤ tall ∧ tall ≤ 3
        · go_wp2_with fail
          refine (lwithin_c _ _ _).mono ?_
          rintro e w1 ⟨rfl, hb⟩
          rw [decide_eq_true h3]
          replace HX := Aside0.mk (blk_below hb HX.out)
          replace HB0 := Aside0.mk (below_step HB0.out hb)
          have c2 := (blk_cell HX.out 2).trans rfl
          have c3 := (blk_cell HX.out 3).trans rfl
          clear hb
          go_wp2
          go_ret
          exact ⟨by rw [show okKey _ _ _ _ = true from decide_eq_true (by omega)]; rfl, HB0.out⟩
        · go_wp2_with fail
          refine (lwithin_c _ _ _).mono ?_
          rintro e w1 ⟨rfl, hb⟩
          rw [decide_eq_false h3]
          replace HX := Aside0.mk (blk_below hb HX.out)
          replace HB0 := Aside0.mk (below_step HB0.out hb)
          have c2 := (blk_cell HX.out 2).trans rfl
          have c3 := (blk_cell HX.out 3).trans rfl
          clear hb
          go_wp2
          go_ret
          exact ⟨by rw [show okKey _ _ _ _ = false from decide_eq_false (by omega)]; rfl, HB0.out⟩
      · go_wp2_with fail
        refine (lwithin_c _ _ _).mono ?_
        rintro e w1 ⟨rfl, hb⟩
        rw [decide_eq_false h2]
        replace HX := Aside0.mk (blk_below hb HX.out)
        replace HB0 := Aside0.mk (below_step HB0.out hb)
        have c2 := (blk_cell HX.out 2).trans rfl
        have c3 := (blk_cell HX.out 3).trans rfl
        clear hb
        go_wp2
        go_ret
        exact ⟨by rw [show okKey _ _ _ _ = false from decide_eq_false (by omega)]; rfl, HB0.out⟩
    · go_wp2_with fail
      refine (lwithin_c _ _ _).mono ?_
      rintro e w1 ⟨rfl, hb⟩
      rw [decide_eq_false h1]
      replace HX := Aside0.mk (blk_below hb HX.out)
      replace HB0 := Aside0.mk (below_step HB0.out hb)
      have c2 := (blk_cell HX.out 2).trans rfl
      have c3 := (blk_cell HX.out 3).trans rfl
      clear hb
      go_wp2
      go_ret
      exact ⟨by rw [show okKey _ _ _ _ = false from decide_eq_false (by omega)]; rfl, HB0.out⟩
  · by_cases e7 : k = 7
    · subst e7
      by_cases h2 : val = 0
      · subst h2
        by_cases h3 : tall = 0
        · subst h3
          by_cases h1 : 0 ≤ key ∧ key ≤ 255
          · go_wp2_with fail
            refine (lwithin_c _ _ _).mono ?_
            rintro e w1 ⟨rfl, hb⟩
            rw [decide_eq_true h1]
            replace HX := Aside0.mk (blk_below hb HX.out)
            replace HB0 := Aside0.mk (below_step HB0.out hb)
            have c2 := (blk_cell HX.out 2).trans rfl
            have c3 := (blk_cell HX.out 3).trans rfl
            clear hb
            go_wp2_with fail
            refine (lwithin_c _ _ _).mono ?_
            rintro e w1 ⟨rfl, hb⟩
            rw [decide_eq_true (show (0:Int) ≤ 0 ∧ (0:Int) ≤ 1073741824 by decide)]
            replace HX := Aside0.mk (blk_below hb HX.out)
            replace HB0 := Aside0.mk (below_step HB0.out hb)
            have c2 := (blk_cell HX.out 2).trans rfl
            have c3 := (blk_cell HX.out 3).trans rfl
            clear hb
            go_wp2_with fail
            refine (lwithin_c _ _ _).mono ?_
            rintro e w1 ⟨rfl, hb⟩
            rw [decide_eq_true (show (0:Int) ≤ 0 ∧ (0:Int) ≤ 3 by decide)]
            replace HX := Aside0.mk (blk_below hb HX.out)
            replace HB0 := Aside0.mk (below_step HB0.out hb)
            have c2 := (blk_cell HX.out 2).trans rfl
            have c3 := (blk_cell HX.out 3).trans rfl
            clear hb
            go_wp2
            go_ret
            exact ⟨by rw [show okKey _ _ _ _ = true from decide_eq_true (by omega)]; rfl, HB0.out⟩
          · go_wp2_with fail
            refine (lwithin_c _ _ _).mono ?_
            rintro e w1 ⟨rfl, hb⟩
            rw [decide_eq_false h1]
            replace HX := Aside0.mk (blk_below hb HX.out)
            replace HB0 := Aside0.mk (below_step HB0.out hb)
            have c2 := (blk_cell HX.out 2).trans rfl
            have c3 := (blk_cell HX.out 3).trans rfl
            clear hb
            go_wp2
            go_ret
            exact ⟨by rw [show okKey _ _ _ _ = false from decide_eq_false (by omega)]; rfl, HB0.out⟩
        · go_wp2
          go_ret
          exact ⟨by rw [show okKey _ _ _ _ = false from decide_eq_false (by omega)]; rfl, HB0.out⟩
      · go_wp2
        go_ret
        exact ⟨by rw [show okKey _ _ _ _ = false from decide_eq_false (by omega)]; rfl, HB0.out⟩
    · by_cases e8 : k = 8
      · subst e8
        by_cases h2 : val = 0
        · subst h2
          by_cases h3 : tall = 0
          · subst h3
            by_cases h1 : 0 ≤ key ∧ key ≤ 255
            · go_wp2_with fail
              refine (lwithin_c _ _ _).mono ?_
              rintro e w1 ⟨rfl, hb⟩
              rw [decide_eq_true h1]
              replace HX := Aside0.mk (blk_below hb HX.out)
              replace HB0 := Aside0.mk (below_step HB0.out hb)
              have c2 := (blk_cell HX.out 2).trans rfl
              have c3 := (blk_cell HX.out 3).trans rfl
              clear hb
              go_wp2_with fail
              refine (lwithin_c _ _ _).mono ?_
              rintro e w1 ⟨rfl, hb⟩
              rw [decide_eq_true (show (0:Int) ≤ 0 ∧ (0:Int) ≤ 1073741824 by decide)]
              replace HX := Aside0.mk (blk_below hb HX.out)
              replace HB0 := Aside0.mk (below_step HB0.out hb)
              have c2 := (blk_cell HX.out 2).trans rfl
              have c3 := (blk_cell HX.out 3).trans rfl
              clear hb
              go_wp2_with fail
              refine (lwithin_c _ _ _).mono ?_
              rintro e w1 ⟨rfl, hb⟩
              rw [decide_eq_true (show (0:Int) ≤ 0 ∧ (0:Int) ≤ 3 by decide)]
              replace HX := Aside0.mk (blk_below hb HX.out)
              replace HB0 := Aside0.mk (below_step HB0.out hb)
              have c2 := (blk_cell HX.out 2).trans rfl
              have c3 := (blk_cell HX.out 3).trans rfl
              clear hb
              go_wp2
              go_ret
              exact ⟨by rw [show okKey _ _ _ _ = true from decide_eq_true (by omega)]; rfl, HB0.out⟩
            · go_wp2_with fail
              refine (lwithin_c _ _ _).mono ?_
              rintro e w1 ⟨rfl, hb⟩
              rw [decide_eq_false h1]
              replace HX := Aside0.mk (blk_below hb HX.out)
              replace HB0 := Aside0.mk (below_step HB0.out hb)
              have c2 := (blk_cell HX.out 2).trans rfl
              have c3 := (blk_cell HX.out 3).trans rfl
              clear hb
              go_wp2
              go_ret
              exact ⟨by rw [show okKey _ _ _ _ = false from decide_eq_false (by omega)]; rfl, HB0.out⟩
          · go_wp2
            go_ret
            exact ⟨by rw [show okKey _ _ _ _ = false from decide_eq_false (by omega)]; rfl, HB0.out⟩
        · go_wp2
          go_ret
          exact ⟨by rw [show okKey _ _ _ _ = false from decide_eq_false (by omega)]; rfl, HB0.out⟩
      · go_wp2
        go_ret
        exact ⟨by rw [show okKey _ _ _ _ = false from decide_eq_false (by omega)]; rfl, HB0.out⟩
end Go.Proofs.YtlcfkdglknkbdaaDoor.Lo
