/- What the references answer; right. -/
import Derived.Test.YtcnhjbpgjemnhaaDoorBdC
namespace Go.Proofs.YtcnhjbpgjemnhaaDoor.Bd
open Go.RowKit Go.Proofs.YtcnhjbpgjemnhaaDoorW.PrintWords Go.Proofs.YtcnhjbpgjemnhaaDoorW.PrintLast Go.Proofs.YtcnhjbpgjemnhaaDoorW.PrintMore Go.Proofs.YtcnhjbpgjemnhaaDoor.X
set_option linter.unusedVariables false
set_option linter.unusedSimpArgs false
attribute [local go_sem high] eqA25 eqA48 eqA50

def rootF (n : Int) : Int := if 0 ≤ n ∧ n < 24 then n else -1
def keepF (t n : Int) : Int := if (0 ≤ t ∧ t < 6) ∧ (0 ≤ n ∧ n < 9) then 25 + t * 9 + n else -1
def spanF (t : Int) : Int := if 0 ≤ t ∧ t < 6 then 79 + t else -1
theorem rroot_c (n : Int) (w : World) : Calls Tryd.prog 17 #[.int .i64 n] w fun e w' => e = .returned (.int .i64 (rootF n)) ∧ Below w.heap.size w w' := by
  unfold rootF
  go_enter Tryd.func17, Tryd.ntmps17
  go_wp2_with fail
  refine (in_c n 24 _).mono ?_
  rintro e w1 ⟨rfl, hb⟩
  by_cases h : 0 ≤ n ∧ n < 24
  · rw [decide_eq_true h]
    go_wp2
    go_ret
    exact ⟨rfl, hb⟩
  · rw [decide_eq_false h]
    go_wp2
    go_ret
    exact ⟨rfl, hb⟩
theorem rspan_c (n : Int) (w : World) : Calls Tryd.prog 19 #[.int .i64 n] w fun e w' => e = .returned (.int .i64 (spanF n)) ∧ Below w.heap.size w w' := by
  unfold spanF
  go_enter Tryd.func19, Tryd.ntmps19
  go_wp2_with fail
  refine (in_c n 6 _).mono ?_
  rintro e w1 ⟨rfl, hb⟩
  by_cases h : 0 ≤ n ∧ n < 6
  · rw [decide_eq_true h]
    have q1 := w64 (79 + n) (by omega)
    go_wp2
    go_ret
    exact ⟨rfl, hb⟩
  · rw [decide_eq_false h]
    go_wp2
    go_ret
    exact ⟨rfl, hb⟩
theorem rkeep_c (t n : Int) (w : World) : Calls Tryd.prog 18 #[.int .i64 t, .int .i64 n] w fun e w' => e = .returned (.int .i64 (keepF t n)) ∧ Below w.heap.size w w' := by
  unfold keepF
  go_enter Tryd.func18, Tryd.ntmps18
  go_wp2_with fail
  refine (in_c t 6 _).mono ?_
  rintro e w1 ⟨rfl, hb⟩
  by_cases h : 0 ≤ t ∧ t < 6
  · rw [decide_eq_true h]
    go_wp2_with fail
    refine (in_c n 9 _).mono ?_
    rintro e w2 ⟨rfl, hb2⟩
    replace hb2 := below_step hb hb2
    by_cases h' : 0 ≤ n ∧ n < 9
    · rw [decide_eq_true h']
      have q1 := w64 (9 * t) (by omega)
      have q2 := w64 (25 + 9 * t) (by omega)
      have q3 := w64 (25 + 9 * t + n) (by omega)
      go_wp2
      go_ret
      exact ⟨by rw [Int.mul_comm t 9]; rfl, hb2⟩
    · rw [decide_eq_false h']
      go_wp2
      go_ret
      exact ⟨rfl, hb2⟩
  · rw [decide_eq_false h]
    go_wp2
    go_ret
    exact ⟨rfl, hb⟩

/-- An address and an error, of a number that may be none. -/
def Right (w : World) (a : Addr) (m : Int) (v : Value) (n : Int) : Prop := (0 ≤ n ∧ m = n ∧ v = .nilIface) ∨ (n < 0 ∧ m = 0 ∧ Ats w a v)
theorem Right_below {w w1 : World} {a : Addr} {m n : Int} {v : Value} (h : Right w a m v n) (hb : Below w.heap.size w w1) : Right w1 a m v n := by
  rcases h with h | ⟨h1, h2, h3⟩
  · exact .inl h
  · exact .inr ⟨h1, h2, Ats_below h3 hb⟩
theorem root_s (n : Int) (aA : Addr) (w : World) (hA : w.cell? gArg = some (Sent aA)) : Calls Tryd.prog 11 #[.int .i64 n] w fun e w' => ∃ m v, e = .returned (.tuple #[fld m, v]) ∧ Right w' aA m v (rootF n) ∧ Below w.heap.size w w' := by
  by_cases h : 0 ≤ n ∧ n < 24
  · refine (root_ok n w h).mono ?_
    rintro e w1 ⟨rfl, hb⟩
    exact ⟨_, _, rfl, .inl ⟨by rw [rootF, if_pos h]; exact h.1, by rw [rootF, if_pos h], rfl⟩, hb⟩
  · refine (root_no n aA w h hA).mono ?_
    rintro e w1 ⟨v, rfl, hv, hb⟩
    exact ⟨_, _, rfl, .inr ⟨by rw [rootF, if_neg h]; decide, rfl, hv⟩, hb⟩
theorem span_s (n : Int) (aA : Addr) (w : World) (hA : w.cell? gArg = some (Sent aA)) : Calls Tryd.prog 13 #[.int .i64 n] w fun e w' => ∃ m v, e = .returned (.tuple #[fld m, v]) ∧ Right w' aA m v (spanF n) ∧ Below w.heap.size w w' := by
  by_cases h : 0 ≤ n ∧ n < 6
  · refine (span_ok n w h).mono ?_
    rintro e w1 ⟨rfl, hb⟩
    exact ⟨_, _, rfl, .inl ⟨by rw [spanF, if_pos h]; omega, by rw [spanF, if_pos h], rfl⟩, hb⟩
  · refine (span_no n aA w h hA).mono ?_
    rintro e w1 ⟨v, rfl, hv, hb⟩
    exact ⟨_, _, rfl, .inr ⟨by rw [spanF, if_neg h]; decide, rfl, hv⟩, hb⟩
theorem keep_s (t n : Int) (aA : Addr) (w : World) (hA : w.cell? gArg = some (Sent aA)) : Calls Tryd.prog 12 #[.int .i64 t, .int .i64 n] w fun e w' => ∃ m v, e = .returned (.tuple #[fld m, v]) ∧ Right w' aA m v (keepF t n) ∧ Below w.heap.size w w' := by
  by_cases h : (0 ≤ t ∧ t < 6) ∧ (0 ≤ n ∧ n < 9)
  · refine (keep_ok t n w h.1 h.2).mono ?_
    rintro e w1 ⟨rfl, hb⟩
    exact ⟨_, _, rfl, .inl ⟨by rw [keepF, if_pos h]; omega, by rw [keepF, if_pos h], rfl⟩, hb⟩
  · refine (keep_no t n aA w h hA).mono ?_
    rintro e w1 ⟨v, rfl, hv, hb⟩
    exact ⟨_, _, rfl, .inr ⟨by rw [keepF, if_neg h]; decide, rfl, hv⟩, hb⟩
theorem right_c {aA : Addr} {m n : Int} {v : Value} {w : World} (h : Right w aA m v n) (hA : w.cell? gArg = some (Sent aA)) : Calls Tryd.prog 16 #[fld m, v, .int .i64 n] w fun e w' => e = .returned (.bool true) ∧ Below w.heap.size w w' := by
  have hu := Tryd.underlying25
  have hb0 := below_alloc (Below.refl w.heap.size w) (.cells #[.int .i64 0, .int .i64 0, .int .i64 m] 25)
  rcases h with ⟨h0, rfl, rfl⟩ | ⟨h0, rfl, hv⟩
  · have h1 : ¬ m < 0 := by omega
    go_enter Tryd.func16, Tryd.ntmps16
    go_wp2
    go_ret
    exact ⟨rfl, hb0⟩
  · have hx : (w.alloc (.cells #[.int .i64 0, .int .i64 0, .int .i64 0] 25)).heap[w.heap.size]? = some (.cells #[.int .i64 0, .int .i64 0, .int .i64 0] 25 (0, 0)) := blk_new _ _
    have hA1 := pw_cell_below hb0 hA
    go_enter Tryd.func16, Tryd.ntmps16
    go_wp2_with fail
    refine (is_s (Ats_below hv hb0)).mono ?_
    rintro e w1 ⟨rfl, hb⟩
    have hx := blk_below hb hx
    have hx0 := (blk_cell hx 0).trans rfl
    have hx1 := (blk_cell hx 1).trans rfl
    have hx2 := (blk_cell hx 2).trans rfl
    go_wp2
    go_ret
    exact ⟨rfl, below_step hb0 hb⟩
end Go.Proofs.YtcnhjbpgjemnhaaDoor.Bd
