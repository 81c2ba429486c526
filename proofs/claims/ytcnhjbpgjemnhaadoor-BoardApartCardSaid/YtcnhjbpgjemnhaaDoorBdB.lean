/- board's functions, second part. -/
import Derived.Test.YtcnhjbpgjemnhaaDoorBdA
namespace Go.Proofs.YtcnhjbpgjemnhaaDoor.Bd
open Go.RowKit Go.Proofs.YtcnhjbpgjemnhaaDoorW.PrintWords Go.Proofs.YtcnhjbpgjemnhaaDoorW.PrintLast Go.Proofs.YtcnhjbpgjemnhaaDoorW.PrintMore Go.Proofs.YtcnhjbpgjemnhaaDoor.X
set_option linter.unusedVariables false
set_option linter.unusedSimpArgs false
attribute [local go_sem high] eqA25 eqA48 eqA50

theorem w64 (z : Int) (h : -9223372036854775808 ≤ z ∧ z ≤ 9223372036854775807) : wrap64 z = z := (i64_w _).symm.trans (IntWalk.i64_in _ h)
theorem keep_ok (t n : Int) (w : World) (h : 0 ≤ t ∧ t < 6) (h' : 0 ≤ n ∧ n < 9) : Calls Tryd.prog 12 #[.int .i64 t, .int .i64 n] w fun e w' => e = .returned (.tuple #[fld (25 + t * 9 + n), .nilIface]) ∧ Below w.heap.size w w' := by
  have hu := Tryd.underlying25
  have q1 := w64 (t * 9) (by omega)
  have q2 := w64 (25 + t * 9) (by omega)
  have q3 := w64 (25 + t * 9 + n) (by omega)
  go_enter Tryd.func12, Tryd.ntmps12
  go_wp2_with fail
  refine (below_c t 6 _).mono ?_
  rintro e w1 ⟨rfl, hb⟩
  rw [decide_eq_true h]
  have hx : w1.heap[w.heap.size]? = some (.cells #[.int .i64 0, .int .i64 0, .int .i64 0] 25 (0, 0)) := blk_below hb (blk_new _ _)
  have hb := below_step (below_alloc (Below.refl _ _) _) hb
  go_wp2_with fail
  refine (below_c n 9 _).mono ?_
  rintro e w2 ⟨rfl, hb2⟩
  rw [decide_eq_true h']
  have hx := blk_below hb2 hx
  have hx0 := (blk_cell hx 0).trans rfl
  have hx1 := (blk_cell hx 1).trans rfl
  have hx2 := (blk_cell hx 2).trans rfl
  have hf0 := blk_frozen hx 0
  have hf1 := blk_frozen hx 1
  have hf2 := blk_frozen hx 2
  have hb := below_step hb hb2
  go_wp2
  exact bodyPost_ret (res_addr (x0 := .int .i64 0) (x1 := .int .i64 0) (x2 := .int .i64 (25 + t * 9 + n)) Tryd.results12 rfl rfl (blk_set (blk_set (blk_set hx 0 _) 1 _) 2 _)) rfl ⟨rfl, below_set (below_set (below_set hb (Nat.le_refl _)) (Nat.le_refl _)) (Nat.le_refl _)⟩
theorem keep_no (t n : Int) (aA : Addr) (w : World) (h : ¬((0 ≤ t ∧ t < 6) ∧ (0 ≤ n ∧ n < 9))) (hA : w.cell? gArg = some (Sent aA)) : Calls Tryd.prog 12 #[.int .i64 t, .int .i64 n] w fun e w' => ∃ v, e = .returned (.tuple #[fld 0, v]) ∧ Ats w' aA v ∧ Below w.heap.size w w' := by
  have hu := Tryd.underlying25
  go_enter Tryd.func12, Tryd.ntmps12
  go_wp2_with fail
  refine (below_c t 6 _).mono ?_
  rintro e w1 ⟨rfl, hb⟩
  have hx : w1.heap[w.heap.size]? = some (.cells #[.int .i64 0, .int .i64 0, .int .i64 0] 25 (0, 0)) := blk_below hb (blk_new _ _)
  have hb := below_step (below_alloc (Below.refl _ _) _) hb
  have hA1 := pw_cell_below hb hA
  by_cases ht : 0 ≤ t ∧ t < 6
  · rw [decide_eq_true ht]
    go_wp2_with fail
    refine (below_c n 9 _).mono ?_
    rintro e w3 ⟨rfl, hb3⟩
    rw [decide_eq_false (by omega)]
    have hx := blk_below hb3 hx
    have hA1 := pw_cell_below hb3 hA1
    have hb := below_step hb hb3
    go_wp2_with fail
    refine (at_s t aA _).mono ?_
    rintro e w2 ⟨v, rfl, hv, hb2⟩
    have hx := blk_below hb2 hx
    have hx0 := (blk_cell hx 0).trans rfl
    have hx1 := (blk_cell hx 1).trans rfl
    have hx2 := (blk_cell hx 2).trans rfl
    have hf0 := blk_frozen hx 0
    have hf1 := blk_frozen hx 1
    have hf2 := blk_frozen hx 2
    have hb := below_step hb hb2
    obtain ⟨gv, pv, rfl, hgv⟩ := hv
    have hne : gv ≠ w.heap.size := blk_ne hgv hx (by decide)
    go_wp2
    exact bodyPost_ret (res_addr (x0 := .int .i64 0) (x1 := .int .i64 0) (x2 := .int .i64 0) Tryd.results12 rfl rfl (blk_set (blk_set (blk_set hx 0 _) 1 _) 2 _)) rfl ⟨_, rfl, ⟨gv, pv, rfl, blk_far (blk_far (blk_far hgv hne _) hne _) hne _⟩, below_set (below_set (below_set hb (Nat.le_refl _)) (Nat.le_refl _)) (Nat.le_refl _)⟩
  · rw [decide_eq_false ht]
    go_wp2_with fail
    refine (at_s t aA _).mono ?_
    rintro e w2 ⟨v, rfl, hv, hb2⟩
    have hx := blk_below hb2 hx
    have hx0 := (blk_cell hx 0).trans rfl
    have hx1 := (blk_cell hx 1).trans rfl
    have hx2 := (blk_cell hx 2).trans rfl
    have hf0 := blk_frozen hx 0
    have hf1 := blk_frozen hx 1
    have hf2 := blk_frozen hx 2
    have hb := below_step hb hb2
    obtain ⟨gv, pv, rfl, hgv⟩ := hv
    have hne : gv ≠ w.heap.size := blk_ne hgv hx (by decide)
    go_wp2
    exact bodyPost_ret (res_addr (x0 := .int .i64 0) (x1 := .int .i64 0) (x2 := .int .i64 0) Tryd.results12 rfl rfl (blk_set (blk_set (blk_set hx 0 _) 1 _) 2 _)) rfl ⟨_, rfl, ⟨gv, pv, rfl, blk_far (blk_far (blk_far hgv hne _) hne _) hne _⟩, below_set (below_set (below_set hb (Nat.le_refl _)) (Nat.le_refl _)) (Nat.le_refl _)⟩
theorem span_ok (t : Int) (w : World) (h : 0 ≤ t ∧ t < 6) : Calls Tryd.prog 13 #[.int .i64 t] w fun e w' => e = .returned (.tuple #[fld (79 + t), .nilIface]) ∧ Below w.heap.size w w' := by
  have hu := Tryd.underlying25
  have q1 := w64 (79 + t) (by omega)
  go_enter Tryd.func13, Tryd.ntmps13
  go_wp2_with fail
  refine (below_c t 6 _).mono ?_
  rintro e w1 ⟨rfl, hb⟩
  rw [decide_eq_true h]
  have hx : w1.heap[w.heap.size]? = some (.cells #[.int .i64 0, .int .i64 0, .int .i64 0] 25 (0, 0)) := blk_below hb (blk_new _ _)
  have hx0 := (blk_cell hx 0).trans rfl
  have hx1 := (blk_cell hx 1).trans rfl
  have hx2 := (blk_cell hx 2).trans rfl
  have hf0 := blk_frozen hx 0
  have hf1 := blk_frozen hx 1
  have hf2 := blk_frozen hx 2
  have hb := below_step (below_alloc (Below.refl _ _) _) hb
  go_wp2
  exact bodyPost_ret (res_addr (x0 := .int .i64 0) (x1 := .int .i64 0) (x2 := .int .i64 (79 + t)) Tryd.results13 rfl rfl (blk_set (blk_set (blk_set hx 0 _) 1 _) 2 _)) rfl ⟨rfl, below_set (below_set (below_set hb (Nat.le_refl _)) (Nat.le_refl _)) (Nat.le_refl _)⟩
theorem span_no (t : Int) (aA : Addr) (w : World) (h : ¬(0 ≤ t ∧ t < 6)) (hA : w.cell? gArg = some (Sent aA)) : Calls Tryd.prog 13 #[.int .i64 t] w fun e w' => ∃ v, e = .returned (.tuple #[fld 0, v]) ∧ Ats w' aA v ∧ Below w.heap.size w w' := by
  have hu := Tryd.underlying25
  go_enter Tryd.func13, Tryd.ntmps13
  go_wp2_with fail
  refine (below_c t 6 _).mono ?_
  rintro e w1 ⟨rfl, hb⟩
  rw [decide_eq_false h]
  have hx : w1.heap[w.heap.size]? = some (.cells #[.int .i64 0, .int .i64 0, .int .i64 0] 25 (0, 0)) := blk_below hb (blk_new _ _)
  have hb := below_step (below_alloc (Below.refl _ _) _) hb
  have hA1 := pw_cell_below hb hA
  go_wp2_with fail
  refine (at_s t aA _).mono ?_
  rintro e w2 ⟨v, rfl, hv, hb2⟩
  have hx := blk_below hb2 hx
  have hx0 := (blk_cell hx 0).trans rfl
  have hx1 := (blk_cell hx 1).trans rfl
  have hx2 := (blk_cell hx 2).trans rfl
  have hf0 := blk_frozen hx 0
  have hf1 := blk_frozen hx 1
  have hf2 := blk_frozen hx 2
  have hb := below_step hb hb2
  obtain ⟨gv, pv, rfl, hgv⟩ := hv
  have hne : gv ≠ w.heap.size := blk_ne hgv hx (by decide)
  go_wp2
  exact bodyPost_ret (res_addr (x0 := .int .i64 0) (x1 := .int .i64 0) (x2 := .int .i64 0) Tryd.results13 rfl rfl (blk_set (blk_set (blk_set hx 0 _) 1 _) 2 _)) rfl ⟨_, rfl, ⟨gv, pv, rfl, blk_far (blk_far (blk_far hgv hne _) hne _) hne _⟩, below_set (below_set (below_set hb (Nat.le_refl _)) (Nat.le_refl _)) (Nat.le_refl _)⟩

/-! ### Where -/
theorem where_no (s g f : Int) (aN : Addr) (w : World) (h : ¬(s = 0 ∧ g = 0 ∧ 0 ≤ f ∧ f < 85)) (hN : w.cell? gNone = some (Sent aN)) : Calls Tryd.prog 14 #[.agg #[.int .i64 s, .int .i64 g, .int .i64 f]] w fun e w' => ∃ v, e = .returned (.tuple #[.string ⟨#[]⟩, .int .i64 0, .int .i64 0, v]) ∧ Ats w' aN v ∧ Below w.heap.size w w' := by
  have hu := Tryd.underlying25
  have hb := below_alloc (Below.refl w.heap.size w) (.cells #[.int .i64 s, .int .i64 g, .int .i64 f] 25)
  have hN1 := pw_cell_below hb hN
  go_enter Tryd.func14, Tryd.ntmps14
  by_cases hs : s = 0
  · subst hs
    by_cases hg : g = 0
    · subst hg
      have hd : decide (0 ≤ f ∧ f < 85) = false := decide_eq_false (fun hh => h ⟨rfl, rfl, hh⟩)
      replace hd := Aside0.mk hd
      go_wp2_with fail
      refine (below_c f 85 _).mono ?_
      rintro e w1 ⟨rfl, hb1⟩
      rw [hd.out]
      have hN1 := pw_cell_below hb1 hN1
      have hb := below_step hb hb1
      go_wp2_with fail
      refine (at_s f aN _).mono ?_
      rintro e w2 ⟨v, rfl, hv, hb2⟩
      go_wp2
      exact bodyPost_ret (v := .tuple #[.string ⟨#[]⟩, .int .i64 0, .int .i64 0, v]) (by simp [results, Tryd.results14, go_sem]) rfl ⟨_, rfl, hv, below_step hb hb2⟩
    · have hg1 : (g != 0) = true := by simpa using hg
      go_wp2_with fail
      refine (at_s f aN _).mono ?_
      rintro e w2 ⟨v, rfl, hv, hb2⟩
      go_wp2
      exact bodyPost_ret (v := .tuple #[.string ⟨#[]⟩, .int .i64 0, .int .i64 0, v]) (by simp [results, Tryd.results14, go_sem]) rfl ⟨_, rfl, hv, below_step hb hb2⟩
  · have hs1 : (s != 0) = true := by simpa using hs
    go_wp2_with fail
    refine (at_s f aN _).mono ?_
    rintro e w2 ⟨v, rfl, hv, hb2⟩
    go_wp2
    exact bodyPost_ret (v := .tuple #[.string ⟨#[]⟩, .int .i64 0, .int .i64 0, v]) (by simp [results, Tryd.results14, go_sem]) rfl ⟨_, rfl, hv, below_step hb hb2⟩
/-- What a cell of the board is. -/
def whereS (f : Int) : Array UInt8 := if f < 24 then #[114, 111, 111, 116] else if f = 24 then #[101, 114, 97] else if f < 79 then #[107, 101, 101, 112] else #[115, 112, 97, 110]
def whereT (f : Int) : Int := if f < 24 then 0 else if f = 24 then 0 else if f < 79 then (f - 25) / 9 else f - 79
def whereN (f : Int) : Int := if f < 24 then f else if f = 24 then 0 else if f < 79 then (f - 25) % 9 else 0
theorem whereF (f : Int) (h : f < 24) : whereS f = #[114, 111, 111, 116] ∧ whereT f = 0 ∧ whereN f = f := by
  unfold whereS whereT whereN
  rw [if_pos h, if_pos h, if_pos h]
  exact ⟨by trivial, by trivial, by trivial⟩
theorem whereK (f : Int) (h : 24 < f) (h2 : f < 79) : whereS f = #[107, 101, 101, 112] ∧ whereT f = (f - 25) / 9 ∧ whereN f = (f - 25) % 9 := by
  unfold whereS whereT whereN
  simp only [if_neg (show ¬ f < 24 by omega), if_neg (show ¬ f = 24 by omega), if_pos h2]
  exact ⟨by trivial, by trivial, by trivial⟩
theorem whereP (f : Int) (h : 79 ≤ f) : whereS f = #[115, 112, 97, 110] ∧ whereT f = f - 79 ∧ whereN f = 0 := by
  unfold whereS whereT whereN
  simp only [if_neg (show ¬ f < 24 by omega), if_neg (show ¬ f = 24 by omega), if_neg (show ¬ f < 79 by omega)]
  exact ⟨by trivial, by trivial, by trivial⟩
theorem where_ok (f : Int) (w : World) (h : 0 ≤ f ∧ f < 85) : Calls Tryd.prog 14 #[fld f] w fun e w' => e = .returned (.tuple #[.string ⟨whereS f⟩, .int .i64 (whereT f), .int .i64 (whereN f), .nilIface]) ∧ Below w.heap.size w w' := by
  have hu := Tryd.underlying25
  have hb := below_alloc (Below.refl w.heap.size w) (.cells #[.int .i64 0, .int .i64 0, .int .i64 f] 25)
  have hx : (w.alloc (.cells #[.int .i64 0, .int .i64 0, .int .i64 f] 25)).heap[w.heap.size]? = some (.cells #[.int .i64 0, .int .i64 0, .int .i64 f] 25 (0, 0)) := blk_new _ _
  go_enter Tryd.func14, Tryd.ntmps14
  go_wp2_with fail
  refine (below_c f 85 _).mono ?_
  rintro e w1 ⟨rfl, hb1⟩
  rw [decide_eq_true (by omega)]
  have hbz := below_step hb hb1
  clear hb hb1
  by_cases h1 : f < 24
  · skip
    go_wp2
    exact bodyPost_ret (v := .tuple #[.string ⟨#[114, 111, 111, 116]⟩, .int .i64 0, .int .i64 f, .nilIface]) (by simp [results, Tryd.results14, go_sem]) rfl ⟨by obtain ⟨q1_, q2_, q3_⟩ := whereF f (by omega); rw [q1_, q2_, q3_], hbz⟩
  · by_cases h2 : f = 24
    · subst h2
      go_wp2
      exact bodyPost_ret (v := .tuple #[.string ⟨#[101, 114, 97]⟩, .int .i64 0, .int .i64 0, .nilIface]) (by simp [results, Tryd.results14, go_sem]) rfl ⟨by rw [show whereS 24 = #[101, 114, 97] by decide, show whereT 24 = 0 by decide, show whereN 24 = 0 by decide], hbz⟩
    · have h2' : (f == 24) = false := by simpa using h2
      by_cases h3 : f < 79
      · skip
        have q1 := w64 (f - 25) (by omega)
        have q2 : (f - 25).tdiv 9 = (f - 25) / 9 := Int.tdiv_eq_ediv_of_nonneg (by omega)
        have q3 : (f - 25).tmod 9 = (f - 25) % 9 := Int.tmod_eq_emod_of_nonneg (by omega)
        have q4 := w64 ((f - 25) / 9) (by omega)
        have q5 := w64 ((f - 25) % 9) (by omega)
        go_wp2
        exact bodyPost_ret (v := .tuple #[.string ⟨#[107, 101, 101, 112]⟩, .int .i64 ((f - 25) / 9), .int .i64 ((f - 25) % 9), .nilIface]) (by simp [results, Tryd.results14, go_sem, q1, q2, q3, q4, q5]) rfl ⟨by obtain ⟨q1_, q2_, q3_⟩ := whereK f (by omega) (by omega); rw [q1_, q2_, q3_], hbz⟩
      · skip
        have q1 := w64 (f - 79) (by omega)
        go_wp2
        exact bodyPost_ret (v := .tuple #[.string ⟨#[115, 112, 97, 110]⟩, .int .i64 (f - 79), .int .i64 0, .nilIface]) (by simp [results, Tryd.results14, go_sem, q1]) rfl ⟨by obtain ⟨q1_, q2_, q3_⟩ := whereP f (by omega); rw [q1_, q2_, q3_], hbz⟩
end Go.Proofs.YtcnhjbpgjemnhaaDoor.Bd
