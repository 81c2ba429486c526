/- board's functions: what each answers. -/
import Derived.Test.YtcnhjbpgjemnhaaDoorEr
import Derived.Test.YtcnhjbpgjemnhaaDoorX2
import Derived.Test.YtcnhjbpgjemnhaaDoorX3
namespace Go.Proofs.YtcnhjbpgjemnhaaDoor.Bd
open Go.RowKit Go.Proofs.YtcnhjbpgjemnhaaDoorW.PrintWords Go.Proofs.YtcnhjbpgjemnhaaDoorW.PrintLast Go.Proofs.YtcnhjbpgjemnhaaDoorW.PrintMore Go.Proofs.YtcnhjbpgjemnhaaDoor.X
set_option linter.unusedVariables false
set_option linter.unusedSimpArgs false
attribute [local go_sem high] eqA25 eqA48 eqA50

/-- An error at a place that wraps the sentinel at a. -/
def Ats (w : World) (a : Addr) (v : Value) : Prop := ∃ (g : Nat) (p : Int), v = AtPlace g ∧ w.heap[g]? = some (.cells #[.int .i64 p, Sent a] 63 (0, 0))
theorem Ats_below {w w1 : World} {a : Addr} {v : Value} (h : Ats w a v) (hb : Below w.heap.size w w1) : Ats w1 a v := by
  obtain ⟨g, p, e, h⟩ := h
  exact ⟨g, p, e, blk_below hb h⟩
theorem at_s (n : Int) (a : Addr) (w : World) : Calls Tryd.prog 26 #[.int .i64 n, Sent a] w fun e w' => ∃ v, e = .returned v ∧ Ats w' a v ∧ Below w.heap.size w w' := by
  refine (at_c n a w).mono ?_
  rintro e w1 ⟨g, rfl, h, hb⟩
  exact ⟨_, rfl, ⟨g, n, rfl, h⟩, hb⟩
theorem is_s {a : Addr} {v : Value} {w : World} (h : Ats w a v) : Calls Tryd.prog 20 #[v, Sent a] w fun e w' => e = .returned (.bool true) ∧ Below w.heap.size w w' := by
  obtain ⟨g, p, rfl, h⟩ := h
  refine (is_woe g a w ((blk_cell h 1).trans rfl)).mono ?_
  rintro e w1 ⟨rfl, rfl⟩
  exact ⟨rfl, Below.refl _ _⟩
theorem below_c (n m : Int) (w : World) : Calls Tryd.prog 25 #[.int .i64 n, .int .i64 m] w fun e w' => e = .returned (.bool (decide (0 ≤ n ∧ n < m))) ∧ Below w.heap.size w w' := by
  go_enter Tryd.func25, Tryd.ntmps25
  go_wp2
  all_goals
    go_ret
    refine ⟨ret_bool ?_, Below.refl _ _⟩
    simp
    try omega
theorem in_c (n m : Int) (w : World) : Calls Tryd.prog 27 #[.int .i64 n, .int .i64 m] w fun e w' => e = .returned (.bool (decide (0 ≤ n ∧ n < m))) ∧ Below w.heap.size w w' := by
  go_enter Tryd.func27, Tryd.ntmps27
  go_wp2
  all_goals
    go_ret
    refine ⟨ret_bool ?_, Below.refl _ _⟩
    simp
    try omega
theorem cells_c (w : World) : Calls Tryd.prog 21 #[] w fun e w' => e = .returned (.int .i64 85) ∧ Below w.heap.size w w' := by
  go_enter Tryd.func21, Tryd.ntmps21
  go_wp2
  go_ret
  exact ⟨rfl, Below.refl _ _⟩
theorem era_c (w : World) : Calls Tryd.prog 22 #[] w fun e w' => e = .returned (.agg #[.int .i64 0, .int .i64 0, .int .i64 24]) ∧ Below w.heap.size w w' := by
  have hu := Tryd.underlying25
  go_enter Tryd.func22, Tryd.ntmps22
  go_wp2
  refine bodyPost_ret (v := .agg #[.int .i64 0, .int .i64 0, .int .i64 24]) (by simp [results, Tryd.results22, go_sem]) rfl ⟨rfl, ?_⟩
  first | exact Below.refl _ _ | exact (below_alloc (Below.refl _ _) _) | (repeat (first | exact Below.refl _ _ | apply below_alloc | apply below_set))

/-- An address of the board's fields. -/
abbrev fld (n : Int) : Value := .agg #[.int .i64 0, .int .i64 0, .int .i64 n]
theorem res_addr {fn : Func} {a : Act} {w : World} {g : Nat} {t t' : Tmp} {x0 x1 x2 v : Value} (hres : fn.results = #[.cell t 25, .tmp t']) (ht : a.tmps[t]? = some (.pointer (some ⟨g, 0, none⟩))) (hv : a.tmps[t']? = some v)
    (hx : w.heap[g]? = some (.cells #[x0, x1, x2] 25 (0, 0))) : (results fn a.tmps).run Tryd.prog w = .ok (.tuple #[.agg #[x0, x1, x2], v]) w := by
  have hu := Tryd.underlying25
  have y0 : w.cell? ⟨g, 0, none⟩ = some x0 := (blk_cell hx 0).trans rfl
  have y1 : w.cell? ⟨g, 1, none⟩ = some x1 := (blk_cell hx 1).trans rfl
  have y2 : w.cell? ⟨g, 2, none⟩ = some x2 := (blk_cell hx 2).trans rfl
  simp [results, hres, go_sem, ht, hv, y0, y1, y2]
theorem res_word {fn : Func} {a : Act} {w : World} {g : Nat} {t t' : Tmp} {x0 x1 x2 x3 x4 v : Value} (hres : fn.results = #[.cell t 50, .tmp t']) (ht : a.tmps[t]? = some (.pointer (some ⟨g, 0, none⟩))) (hv : a.tmps[t']? = some v)
    (hx : w.heap[g]? = some (.cells #[x0, x1, x2, x3, x4] 50 (0, 0))) : (results fn a.tmps).run Tryd.prog w = .ok (.tuple #[.agg #[x0, x1, x2, x3, x4], v]) w := by
  have hu := Tryd.underlying50
  have y0 : w.cell? ⟨g, 0, none⟩ = some x0 := (blk_cell hx 0).trans rfl
  have y1 : w.cell? ⟨g, 1, none⟩ = some x1 := (blk_cell hx 1).trans rfl
  have y2 : w.cell? ⟨g, 2, none⟩ = some x2 := (blk_cell hx 2).trans rfl
  have y3 : w.cell? ⟨g, 3, none⟩ = some x3 := (blk_cell hx 3).trans rfl
  have y4 : w.cell? ⟨g, 4, none⟩ = some x4 := (blk_cell hx 4).trans rfl
  simp [results, hres, go_sem, ht, hv, y0, y1, y2, y3, y4]
abbrev gArg : Addr := ⟨1, 0, none⟩
abbrev gNone : Addr := ⟨0, 0, none⟩
theorem root_ok (n : Int) (w : World) (h : 0 ≤ n ∧ n < 24) : Calls Tryd.prog 11 #[.int .i64 n] w fun e w' => e = .returned (.tuple #[fld n, .nilIface]) ∧ Below w.heap.size w w' := by
  have hu := Tryd.underlying25
  go_enter Tryd.func11, Tryd.ntmps11
  go_wp2_with fail
  refine (below_c n 24 _).mono ?_
  rintro e w1 ⟨rfl, hb⟩
  rw [decide_eq_true h]
  have hx : w1.heap[w.heap.size]? = some (.cells #[.int .i64 0, .int .i64 0, .int .i64 0] 25 (0, 0)) := blk_below hb (blk_new _ _)
  have hx0 := (blk_cell hx 0).trans rfl
  have hx1 := (blk_cell hx 1).trans rfl
  have hx2 := (blk_cell hx 2).trans rfl
  have hf0 := blk_frozen hx 0
  have hf1 := blk_frozen hx 1
  have hf2 := blk_frozen hx 2
  have hb := below_step (below_alloc (Below.refl _ _) _) hb
  go_wp2
  trace_state
  exact bodyPost_ret (res_addr (x0 := .int .i64 0) (x1 := .int .i64 0) (x2 := .int .i64 n) Tryd.results11 rfl rfl (blk_set (blk_set (blk_set hx 0 _) 1 _) 2 _)) rfl ⟨rfl, below_set (below_set (below_set hb (Nat.le_refl _)) (Nat.le_refl _)) (Nat.le_refl _)⟩
theorem root_no (n : Int) (aA : Addr) (w : World) (h : ¬(0 ≤ n ∧ n < 24)) (hA : w.cell? gArg = some (Sent aA)) : Calls Tryd.prog 11 #[.int .i64 n] w fun e w' => ∃ v, e = .returned (.tuple #[fld 0, v]) ∧ Ats w' aA v ∧ Below w.heap.size w w' := by
  have hu := Tryd.underlying25
  go_enter Tryd.func11, Tryd.ntmps11
  go_wp2_with fail
  refine (below_c n 24 _).mono ?_
  rintro e w1 ⟨rfl, hb⟩
  rw [decide_eq_false h]
  have hx : w1.heap[w.heap.size]? = some (.cells #[.int .i64 0, .int .i64 0, .int .i64 0] 25 (0, 0)) := blk_below hb (blk_new _ _)
  have hb := below_step (below_alloc (Below.refl _ _) _) hb
  have hA1 := pw_cell_below hb hA
  go_wp2_with fail
  refine (at_s n aA _).mono ?_
  rintro e w2 ⟨v, rfl, hv, hb2⟩
  have hx := blk_below hb2 hx
  have hx0 := (blk_cell hx 0).trans rfl
  have hx1 := (blk_cell hx 1).trans rfl
  have hx2 := (blk_cell hx 2).trans rfl
  have hf0 := blk_frozen hx 0
  have hf1 := blk_frozen hx 1
  have hf2 := blk_frozen hx 2
  have hb := below_step hb hb2
  obtain ⟨gv, pv, rfl, hgv⟩ := hv
  have hne : gv ≠ w.heap.size := blk_ne hgv hx (by decide)
  go_wp2
  exact bodyPost_ret (res_addr (x0 := .int .i64 0) (x1 := .int .i64 0) (x2 := .int .i64 0) Tryd.results11 rfl rfl (blk_set (blk_set (blk_set hx 0 _) 1 _) 2 _)) rfl ⟨_, rfl, ⟨gv, pv, rfl, blk_far (blk_far (blk_far hgv hne _) hne _) hne _⟩, below_set (below_set (below_set hb (Nat.le_refl _)) (Nat.le_refl _)) (Nat.le_refl _)⟩
end Go.Proofs.YtcnhjbpgjemnhaaDoor.Bd
