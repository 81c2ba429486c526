/- great; what a row of notes parted says of counts. -/
import Derived.Test.YtcnhjbpgjemnhaaSvB
namespace Go.Proofs.Ytcnhjbpgjemnhaa.Sv
open Go.RowKit Go.Proofs.YtcnhjbpgjemnhaaW.PrintWords Go.Proofs.YtcnhjbpgjemnhaaW.PrintLast Go.Proofs.YtcnhjbpgjemnhaaW.PrintMore Go.Proofs.Ytcnhjbpgjemnhaa.X
set_option linter.unusedVariables false
set_option linter.unusedSimpArgs false

/-- What a Kept as an argument holds. -/
structure KeptAt (w : World) (k : S27) (cs : List Value) : Prop where
  k_ : k27.K w k cs
def greatB (l : List S39) (k : S27) : Bool := decide (60 < l.length) || (decide (60 < k.f0.length) || (decide (60 < k.f1.length) || decide (60 < k.f2.length)))
set_option maxHeartbeats 1000000 in
theorem great_c (A : Option Addr) (c : Nat) (l : List S39) (k : S27) (A1 A2 A3 : Option Addr) (c1 c2 c3 : Nat) (w : World) :
    Calls Try.prog 9 #[.slice A l.length c, .agg #[.slice A1 k.f0.length c1, .slice A2 k.f1.length c2, .slice A3 k.f2.length c3, .int .i64 k.f3]] w fun e w' => e = .returned (.bool (greatB l k)) ∧ Below w.heap.size w w' := by
  have hu27 := Try.underlying27
  go_enter Try.func9, Try.ntmps9
  go_wp2
  all_goals
    go_ret
    refine ⟨?_, below_alloc (Below.refl _ _) _⟩
    refine ret_bool ?_
    rw [Bool.eq_iff_iff]
    simp [greatB]
    try omega

theorem cnt_filter_no (l : List S39) (p : S39 → Bool) (x : S39) (h : p x = false) : cnt (l.filter p) x = 0 := by
  rw [cnt, List.filter_filter, List.length_eq_zero_iff, List.filter_eq_nil_iff]
  intro y _ hy
  rw [Bool.and_eq_true] at hy
  rw [(eqB39_iff _ _).1 hy.1] at hy
  rw [h] at hy
  simp at hy
theorem cnt_filter_yes (l : List S39) (p : S39 → Bool) (x : S39) (h : p x = true) : cnt (l.filter p) x = cnt l x := by
  rw [cnt, cnt, List.filter_filter]
  congr 1
  refine List.filter_congr (fun y _ => ?_)
  by_cases hy : eqB39 y x = true
  · rw [(eqB39_iff _ _).1 hy, h, Bool.and_true]
  · rw [Bool.not_eq_true] at hy
    rw [hy, Bool.false_and]
theorem filter_lengths (l : List S39) (p : S39 → Bool) : (l.filter fun x => !p x).length + (l.filter p).length = l.length := by
  induction l with
  | nil => rfl
  | cons y l ih => cases hp : p y <;> simp [List.filter_cons, hp] <;> omega
end Go.Proofs.Ytcnhjbpgjemnhaa.Sv
