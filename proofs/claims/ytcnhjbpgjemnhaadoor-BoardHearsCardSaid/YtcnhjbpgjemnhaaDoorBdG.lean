/- Say. -/
import Derived.Test.YtcnhjbpgjemnhaaDoorBdE
namespace Go.Proofs.YtcnhjbpgjemnhaaDoor.Bd
open Go.RowKit Go.Proofs.YtcnhjbpgjemnhaaDoorW.PrintWords Go.Proofs.YtcnhjbpgjemnhaaDoorW.PrintLast Go.Proofs.YtcnhjbpgjemnhaaDoorW.PrintMore Go.Proofs.YtcnhjbpgjemnhaaDoor.X
set_option linter.unusedVariables false
set_option linter.unusedSimpArgs false
attribute [local go_sem high] eqA25 eqA48 eqA50

theorem say_zero (w : World) : Calls Tryd.prog 23 #[v48 z48] w fun e w' => e = .returned (.tuple #[v50 z50, .nilIface]) ∧ Below w.heap.size w w' := by
  have hu := Tryd.underlying50
  have hu2 := Tryd.underlying48
  unfold z48
  go_enter Tryd.func23, Tryd.ntmps23
  go_wp2
  refine bodyPost_ret (res_word (x0 := .int .i64 0) (x1 := .int .i64 0) (x2 := .int .i64 0) (x3 := .int .i64 0) (x4 := .bool false) Tryd.results23 rfl rfl ?_) rfl ⟨rfl, ?_⟩
  · simpa using blk_new (w.alloc _) _
  · exact below_alloc (below_alloc (Below.refl _ _) _) _
theorem say_yes (b c : Int) (w : World) (h1 : 0 ≤ b) (h2 : b ≤ c) (h3 : c ≤ 1099511627776) : Calls Tryd.prog 23 #[.agg #[.bool true, .int .i64 b, .int .i64 c]] w fun e w' => e = .returned (.tuple #[v50 ⟨0, 0, c, b, true⟩, .nilIface]) ∧ Below w.heap.size w w' := by
  have hu := Tryd.underlying50
  have hu2 := Tryd.underlying48
  go_enter Tryd.func23, Tryd.ntmps23
  have q1 : ¬ b < 0 := by omega
  have q2 : ¬ c < b := by omega
  have q3 : ¬ 1099511627776 < c := by omega
  go_wp2
  refine bodyPost_ret (res_word (x0 := .int .i64 0) (x1 := .int .i64 0) (x2 := .int .i64 c) (x3 := .int .i64 b) (x4 := .bool true) Tryd.results23 rfl rfl ?_) rfl ⟨rfl, ?_⟩
  · simpa using blk_new (w.alloc _) _
  · exact below_alloc (below_alloc (Below.refl _ _) _) _
set_option maxHeartbeats 1000000 in
theorem say_no (a : Bool) (b c : Int) (aA : Addr) (w : World) (hz : (a == false && (b == 0 && c == 0)) = false) (h : ¬(a = true ∧ 0 ≤ b ∧ b ≤ c ∧ c ≤ 1099511627776)) (hA : w.cell? gArg = some (Sent aA)) : Calls Tryd.prog 23 #[.agg #[.bool a, .int .i64 b, .int .i64 c]] w fun e w' => ∃ v, e = .returned (.tuple #[v50 z50, v]) ∧ Ats w' aA v ∧ Below w.heap.size w w' := by
  have hu := Tryd.underlying50
  have hu2 := Tryd.underlying48
  have hb0 := below_alloc (below_alloc (Below.refl w.heap.size w) (.cells #[.bool a, .int .i64 b, .int .i64 c] 48)) (.cells #[.int .i64 0, .int .i64 0, .int .i64 0, .int .i64 0, .bool false] 50)
  have hx : ((w.alloc (.cells #[.bool a, .int .i64 b, .int .i64 c] 48)).alloc (.cells #[.int .i64 0, .int .i64 0, .int .i64 0, .int .i64 0, .bool false] 50)).heap[w.heap.size + 1]? = some (.cells #[.int .i64 0, .int .i64 0, .int .i64 0, .int .i64 0, .bool false] 50 (0, 0)) := by simpa using blk_new (w.alloc (.cells #[.bool a, .int .i64 b, .int .i64 c] 48)) (.cells #[.int .i64 0, .int .i64 0, .int .i64 0, .int .i64 0, .bool false] 50)
  have hA1 := pw_cell_below hb0 hA
  have HB0 := Aside0.mk hb0
  clear hb0
  have HX := Aside0.mk hx
  clear hx
  have key : ∀ W1, W1 = ((w.alloc (.cells #[.bool a, .int .i64 b, .int .i64 c] 48)).alloc (.cells #[.int .i64 0, .int .i64 0, .int .i64 0, .int .i64 0, .bool false] 50)) → True := fun _ _ => trivial
  clear key
  go_enter Tryd.func23, Tryd.ntmps23
  have hcase : a = false ∨ (a = true ∧ b < 0) ∨ (a = true ∧ ¬ b < 0 ∧ c < b) ∨ (a = true ∧ ¬ b < 0 ∧ ¬ c < b ∧ 1099511627776 < c) := by
    cases a
    · exact .inl rfl
    · right
      simp only [true_and] at h ⊢
      omega
  clear h
  obtain rfl | ⟨rfl, q1⟩ | ⟨rfl, q1, q2⟩ | ⟨rfl, q1, q2, q3⟩ := hcase
  all_goals
    try (have hz2 : (b == 0 && c == 0) = false := hz)
    go_wp2_with fail
    refine (at_s b aA _).mono ?_
    rintro e w2 ⟨v, rfl, hv, hb2⟩
    have hx := blk_below hb2 HX.out
    have hx0 := (blk_cell hx 0).trans rfl
    have hx1 := (blk_cell hx 1).trans rfl
    have hx2 := (blk_cell hx 2).trans rfl
    have hx3 := (blk_cell hx 3).trans rfl
    have hx4 := (blk_cell hx 4).trans rfl
    have hf0 := blk_frozen hx 0
    have hf1 := blk_frozen hx 1
    have hf2 := blk_frozen hx 2
    have hf3 := blk_frozen hx 3
    have hf4 := blk_frozen hx 4
    have hb := below_step HB0.out hb2
    have hs : w.heap.size ≤ w.heap.size + 1 := by omega
    obtain ⟨gv, pv, rfl, hgv⟩ := hv
    have hne : gv ≠ w.heap.size + 1 := blk_ne hgv hx (by decide)
    go_wp2
    exact bodyPost_ret (res_word (x0 := .int .i64 0) (x1 := .int .i64 0) (x2 := .int .i64 0) (x3 := .int .i64 0) (x4 := .bool false) Tryd.results23 rfl rfl (blk_set (blk_set (blk_set (blk_set (blk_set hx 0 _) 1 _) 2 _) 3 _) 4 _)) rfl ⟨_, rfl, ⟨gv, pv, rfl, blk_far (blk_far (blk_far (blk_far (blk_far hgv hne _) hne _) hne _) hne _) hne _⟩, below_set (below_set (below_set (below_set (below_set hb hs) hs) hs) hs) hs⟩
def Said (w : World) (aA : Addr) (s : S48) (x : S50) (v : Value) : Prop := (sayOk s ∧ x = sayW s ∧ v = .nilIface) ∨ (¬ sayOk s ∧ x = z50 ∧ Ats w aA v)
theorem Said_below {w w1 : World} {a : Addr} {s : S48} {x : S50} {v : Value} (h : Said w a s x v) (hb : Below w.heap.size w w1) : Said w1 a s x v := by
  rcases h with h | ⟨h1, h2, h3⟩
  · exact .inl h
  · exact .inr ⟨h1, h2, Ats_below h3 hb⟩
theorem say_s (s : S48) (aA : Addr) (w : World) (hA : w.cell? gArg = some (Sent aA)) : Calls Tryd.prog 23 #[v48 s] w fun e w' => ∃ x v, e = .returned (.tuple #[v50 x, v]) ∧ Said w' aA s x v ∧ Below w.heap.size w w' := by
  obtain ⟨a, b, c⟩ := s
  by_cases hz : (a == false && (b == 0 && c == 0)) = true
  · simp only [Bool.and_eq_true, beq_iff_eq] at hz
    obtain ⟨rfl, rfl, rfl⟩ := hz
    refine (say_zero w).mono ?_
    rintro e w1 ⟨rfl, hb⟩
    exact ⟨_, _, rfl, .inl ⟨.inl rfl, rfl, rfl⟩, hb⟩
  · have hz : (a == false && (b == 0 && c == 0)) = false := by simpa using hz
    by_cases h : a = true ∧ 0 ≤ b ∧ b ≤ c ∧ c ≤ 1099511627776
    · obtain ⟨rfl, h1, h2, h3⟩ := h
      refine (say_yes b c w h1 h2 h3).mono ?_
      rintro e w1 ⟨rfl, hb⟩
      exact ⟨_, _, rfl, .inl ⟨.inr ⟨rfl, h1, h2, h3⟩, rfl, rfl⟩, hb⟩
    · refine (say_no a b c aA w hz h hA).mono ?_
      rintro e w1 ⟨v, rfl, hv, hb⟩
      refine ⟨_, _, rfl, .inr ⟨?_, rfl, hv⟩, hb⟩
      rintro (h0 | h0)
      · cases h0
        simp at hz
      · exact h h0
theorem sayW_inj (s t : S48) (h : sayOk s) (h' : sayOk t) (e : sayW s = sayW t) : s = t := by
  rw [← hear_say s h, ← hear_say t h', e]
end Go.Proofs.YtcnhjbpgjemnhaaDoor.Bd
