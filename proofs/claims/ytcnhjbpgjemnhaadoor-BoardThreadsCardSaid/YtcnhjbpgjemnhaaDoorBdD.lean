/- BoardThreads: the walk. -/
import Derived.Test.YtcnhjbpgjemnhaaDoorBdC
namespace Go.Proofs.YtcnhjbpgjemnhaaDoor.Bd
open Go.RowKit Go.Proofs.YtcnhjbpgjemnhaaDoorW.PrintWords Go.Proofs.YtcnhjbpgjemnhaaDoorW.PrintLast Go.Proofs.YtcnhjbpgjemnhaaDoorW.PrintMore Go.Proofs.YtcnhjbpgjemnhaaDoor.X
set_option linter.unusedVariables false
set_option linter.unusedSimpArgs false
attribute [local go_sem high] eqA25 eqA48 eqA50

def isOf (t : Int) (j : Nat) : Bool := decide (24 < j) && (whereT (j : Int) == t)
def cntT (t : Int) (i : Nat) : Nat := ((List.range i).filter (isOf t)).length
theorem cntT_succ (t : Int) (i : Nat) : cntT t (i + 1) = cntT t i + if isOf t i then 1 else 0 := by
  unfold cntT
  rw [List.range_succ, List.filter_append, List.length_append]
  congr 1
  by_cases h : isOf t i = true <;> simp [List.filter_cons, h]
theorem cntT_le (t : Int) (i : Nat) : cntT t i ≤ i := Nat.le_trans (List.length_filter_le _ _) (by simp)
theorem cntT_all (t : Int) (h : 0 ≤ t) (h' : t < 6) : cntT t 85 = 10 := by
  obtain rfl | rfl | rfl | rfl | rfl | rfl : t = 0 ∨ t = 1 ∨ t = 2 ∨ t = 3 ∨ t = 4 ∨ t = 5 := by omega
  all_goals decide
set_option maxHeartbeats 2000000 in
theorem threads_walk (n : Int) (aA : Addr) (w : World) (hA : w.cell? gArg = some (Sent aA)) : Calls Tryd.prog 6 #[.int .i64 n] w fun e w' => e = .returned (.bool true) ∧ Below w.heap.size w w' := by
  have hu := Tryd.underlying25
  obtain ⟨f, hf, hf0, hf1⟩ : ∃ f : Int, wrap64 ((IntKind.u64.wrap n).tmod 6) = f ∧ 0 ≤ f ∧ f < 6 := by
    have h0 : 0 ≤ IntKind.u64.wrap n := by rw [IntKind.wrap_u64]; omega
    have h1 : (IntKind.u64.wrap n).tmod 6 = IntKind.u64.wrap n % 6 := Int.tmod_eq_emod_of_nonneg h0
    exact ⟨IntKind.u64.wrap n % 6, by rw [h1, w64 _ (by omega)], by omega, by omega⟩
  go_enter Tryd.func6, Tryd.ntmps6
  go_wp2_with fail
  refine (awake_c aA _ hA).mono ?_
  rintro e w1 ⟨rfl, hb1⟩
  have HB := Aside0.mk hb1
  clear hb1
  go_wp2
  simp only [hf]
  clear hf
  go_loopw [4, 5] (fun c i wr => ∃ q : Nat, q ≤ 85 ∧ i = .int .i64 q ∧ c = .int .i64 (cntT f q) ∧ Aside0 (Below w.heap.size w wr)) (fun _ i _ => 85 - (intOf i).toNat)
  case atStart => exact ⟨0, by omega, rfl, rfl, HB⟩
  case round =>
    clear HB
    obtain ⟨q, hq, rfl, rfl, HB⟩ := hrel
    go_wp2_with fail
    refine (cells_c _).mono ?_
    rintro e w2 ⟨rfl, hb2⟩
    replace HB := Aside0.mk (below_step HB.out hb2)
    clear hb2
    have hc := cntT_le f q
    by_cases hlt : q < 85
    · have hk1 : (q : Int) < 85 := by omega
      have hs := cntT_succ f q
      replace hs := Aside0.mk hs
      have hw1 := w64 ((cntT f q : Int) + 1) (by omega)
      have hw2 := w64 ((q : Int) + 1) (by omega)
      go_wp2_with fail
      refine (where_ok (q : Int) _ ⟨by omega, hk1⟩).mono ?_
      rintro e w3 ⟨rfl, hb3⟩
      replace HB := Aside0.mk (below_step HB.out hb3)
      clear hb3
      by_cases h1 : q < 24
      · obtain ⟨q1, q2, q3⟩ := whereF (q : Int) (by omega)
        have hz : isOf f q = false := by simp [isOf]; omega
        rw [q1, q2, q3]
        clear q1 q2 q3
        go_wp2
        go_roundw
        case rel => exact ⟨q + 1, by omega, by go_num, by rw [hs.out, hz]; rfl, HB⟩
        case measure => simp [intOf]; omega
      · by_cases h2 : q = 24
        · subst h2
          rw [show whereS ((24 : Nat) : Int) = #[101, 114, 97] by decide, show whereT ((24 : Nat) : Int) = 0 by decide, show whereN ((24 : Nat) : Int) = 0 by decide]
          go_wp2
          go_roundw
          case rel => exact ⟨25, by omega, by go_num, by rw [hs.out, show isOf f 24 = false by simp [isOf]]; rfl, HB⟩
          case measure => simp [intOf]
        · have hz : isOf f q = (whereT (q : Int) == f) := by simp [isOf]; omega
          by_cases h3 : q < 79
          · obtain ⟨q1, q2, q3⟩ := whereK (q : Int) (by omega) (by omega)
            rw [q2] at hz
            rw [q1, q2, q3]
            clear q1 q2 q3
            generalize ((q : Int) - 25) / 9 = th at *
            by_cases ht : th = f
            · subst ht
              go_wp2
              go_roundw
              case rel => exact ⟨q + 1, by omega, by go_num, by rw [hs.out, hz]; simp, HB⟩
              case measure => simp [intOf]; omega
            · have ht1 : (th == f) = false := by simpa using ht
              go_wp2
              go_roundw
              case rel => exact ⟨q + 1, by omega, by go_num, by rw [hs.out, hz, ht1]; simp, HB⟩
              case measure => simp [intOf]; omega
          · obtain ⟨q1, q2, q3⟩ := whereP (q : Int) (by omega)
            rw [q2] at hz
            rw [q1, q2, q3]
            clear q1 q2 q3
            generalize ((q : Int) - 79) = th at *
            by_cases ht : th = f
            · subst ht
              go_wp2
              go_roundw
              case rel => exact ⟨q + 1, by omega, by go_num, by rw [hs.out, hz]; simp, HB⟩
              case measure => simp [intOf]; omega
            · have ht1 : (th == f) = false := by simpa using ht
              go_wp2
              go_roundw
              case rel => exact ⟨q + 1, by omega, by go_num, by rw [hs.out, hz, ht1]; simp, HB⟩
              case measure => simp [intOf]; omega
    · have hqe : q = 85 := by omega
      subst hqe
      rw [cntT_all f hf0 hf1]
      go_wp2
      go_ret
      exact ⟨rfl, HB.out⟩
end Go.Proofs.YtcnhjbpgjemnhaaDoor.Bd
