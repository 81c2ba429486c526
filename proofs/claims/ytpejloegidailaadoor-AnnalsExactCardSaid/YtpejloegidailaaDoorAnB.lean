/- Whole, count, Same: the library's generics at rows. -/
import Derived.Test.YtpejloegidailaaDoorAnA
import Derived.Lib.SliceRun
namespace Go.Proofs.YtpejloegidailaaDoor.An
open Go.RowKit Go.Proofs.YtpejloegidailaaDoorW.PrintWords Go.Proofs.YtpejloegidailaaDoorW.PrintLast Go.Proofs.YtpejloegidailaaDoorW.PrintMore Go.Proofs.YtpejloegidailaaDoor.X
set_option linter.unusedVariables false
set_option linter.unusedSimpArgs false
attribute [local go_sem high] eqA38 eqA36 eqA40

/-! ### Clone -/
theorem clone_c (A : Option Addr) (c : Nat) (l : List Rw) (w : World) (hl : Kd.C k40 w A l.length l) (hc : l.length ≤ c) (hlim : l.length ≤ 1000000) :
    Calls Tryd.prog 29 #[.slice A l.length c] w fun e w' => ∃ v : Value, e = .returned v ∧ Kd.R k40 40 w' w.heap.size (fun _ => True) v l ∧ Below w.heap.size w w' := by
  have hlen := Kd.C_max hl
  have HL := Aside0.mk hl
  clear hl
  have hq := fun (a : Option Addr) => Lib.run_eql_slice_nil (P := Tryd.prog) w 23 40 a l.length c 0 0 Tryd.underlying23
  cases A with
  | none =>
    have hq := hq none
    obtain rfl : l = [] := by
      cases l with
      | nil => rfl
      | cons x l =>
        obtain ⟨ad, h, _⟩ := HL.out.2.2 (by simp)
        cases h
    simp only [List.length_nil, Option.isNone_none] at hq
    go_enter Tryd.func29, Tryd.ntmps29
    go_wp2
    go_ret
    exact ⟨_, rfl, Kd.R_nil _ _ _ _ _, Below.refl _ _⟩
  | some ad =>
    have hq := hq (some ad)
    go_enter Tryd.func29, Tryd.ntmps29
    go_wp2_with ((with_reducible refine gate_builtin (b := .append) (xs := #[.tmp 5, .tmp 6]) rfl ?_); at_builtin; refine Kd.R_append_rows k40 (w0 := w) w.heap.size rfl (.tmp 5) (.tmp 6) 23 40 _ _ rfl Tryd.underlying23 info40 rfl (by decide) (by decide) (.slice (some ⟨w.heap.size, 0, none⟩) 0 0) [] l _ _ _ (fun _ => True) (fun _ => False) (by first | (go_simp; done) | (go_simp; rfl)) (by first | (go_simp; done) | (go_simp; rfl)) (R_lit_alloc k40 40 w (Nat.le_refl _) (xs := []) (inner := []) (Reps.none _ _) (by simp)) (Kd.C_below HL.out (below_alloc (Below.refl _ _) _)) (fun _ cs h => by obtain rfl := k40_open h; exact k40_mkM _ _ _ _) (fun _ h => h.elim) (fun _ _ => trivial) (below_alloc (Below.refl _ _) _) (by simp) (by first | omega | (simp; omega)) ?_; intro v1 z1 hR1 hB1 hg1 hat1)
    go_ret
    exact ⟨_, rfl, hR1, hB1⟩
/-! ### IndexFunc -/
def idxF (l : List Rw) : Int := match l.findIdx? (fun r => !r.f5) with
  | some k => (k : Int)
  | none => -1
theorem idx_at (l : List Rw) (k : Nat) (h : k < l.length) (ha : (l.take k).all (fun r => r.f5) = true) (hk : (l.getD k z40).f5 = false) : idxF l = (k : Int) := by
  have : l.findIdx? (fun r : Rw => !r.f5) = some k := by
    rw [List.findIdx?_eq_some_iff_getElem]
    refine ⟨h, ?_, fun j hj => ?_⟩
    · simp [List.getD, h] at hk; simp [hk]
    · rw [List.all_eq_true] at ha
      have h1 : j < (l.take k).length := by simp; omega
      have := ha ((l.take k)[j]'h1) (List.getElem_mem h1)
      simpa using this
  unfold idxF
  rw [this]
theorem idx_no (l : List Rw) (ha : l.all (fun r => r.f5) = true) : idxF l = -1 := by
  have : l.findIdx? (fun r : Rw => !r.f5) = none := by
    rw [List.findIdx?_eq_none_iff]
    intro x hx
    rw [List.all_eq_true] at ha
    simp [ha x hx]
  unfold idxF
  rw [this]
theorem all_snoc {α : Type} (l : List α) (p : α → Bool) (d : α) (k : Nat) (h : k < l.length) : (l.take (k + 1)).all p = ((l.take k).all p && p (l.getD k d)) := by
  rw [List.take_succ_eq_append_getElem h, List.all_append]
  simp [List.getD, h]
set_option maxHeartbeats 1000000 in
theorem index_c (A : Option Addr) (c : Nat) (l : List Rw) (w : World) (hl : Kd.C k40 w A l.length l) :
    Calls Tryd.prog 35 #[.slice A l.length c, .func (.func 30) #[] #[]] w fun e w' => e = .returned (.int .i64 (idxF l)) ∧ Below w.heap.size w w' := by
  have h1 := Tryd.underlying40
  have hlen := Kd.C_max hl
  have HL := Aside0.mk hl
  clear hl
  go_enter Tryd.func35, Tryd.ntmps35
  go_wp2
  go_loopw [8] (fun i wr => ∃ k : Nat, k ≤ l.length ∧ i = .int .i64 k ∧ Below w.heap.size w wr ∧ (l.take k).all (fun r => r.f5) = true) (fun i _ => l.length - (intOf i).toNat)
  case atStart => exact ⟨0, Nat.zero_le _, rfl, Below.refl _ _, rfl⟩
  case round =>
    obtain ⟨k, hkl, rfl, hb, hs⟩ := hrel
    have HS := Aside0.mk hs
    clear hs
    have HB := Aside0.mk hb
    clear hb
    by_cases hlt : k < l.length
    · obtain ⟨ad, eA, q0, q1, q2, q3, q4, q5, q6, q7, q8, q9⟩ := at_T40 HL.out (k : Int) (by omega) (by omega)
      replace q0 := pw_cell_below HB.out q0
      replace q1 := pw_cell_below HB.out q1
      replace q2 := pw_cell_below HB.out q2
      replace q3 := pw_cell_below HB.out q3
      replace q4 := pw_cell_below HB.out q4
      replace q5 := pw_cell_below HB.out q5
      replace q6 := pw_cell_below HB.out q6
      replace q7 := pw_cell_below HB.out q7
      replace q8 := pw_cell_below HB.out q8
      replace q9 := pw_cell_below HB.out q9
      simp only [Int.toNat_natCast] at q0 q1 q2 q3 q4 q5 q6 q7 q8 q9
      cases eA
      obtain ⟨x, hx⟩ : ∃ x, x = rd_T40 l (k : Int) := ⟨_, rfl⟩
      rw [← hx] at q0 q1 q2 q3 q4 q5 q6 q7 q8 q9
      have hr : rd_T40 l (k : Int) = l.getD k z40 := by simp [rd_T40]
      rw [← hx] at hr
      have h2 : x.f5 = false → idxF l = (k : Int) := fun h => idx_at l k hlt HS.out (by rw [← hr]; exact h)
      have h3 := all_snoc l (fun r => r.f5) z40 k hlt
      rw [← hr] at h3
      have H2 := Aside0.mk h2
      clear h2
      have H3 := Aside0.mk h3
      clear h3
      have HR := Aside0.mk hr
      clear hr
      have HX := Aside0.mk hx
      clear hx
      go_wp2_with fail
      refine (undone_c x _).mono ?_
      rintro e w1 ⟨rfl, hb1⟩
      cases t : x.f5
      · have H2 := Aside0.mk (H2.out t)
        go_wp2
        go_ret
        exact ⟨by rw [H2.out]; rfl, below_step HB.out hb1⟩
      · rw [t] at H3
        go_wp2
        go_roundw
        case rel => exact ⟨k + 1, by omega, by go_num, below_step HB.out hb1, by rw [H3.out, HS.out]; rfl⟩
        case measure => simp [intOf]; omega
    · go_wp2
      go_ret
      have hk' : k = l.length := by omega
      subst hk'
      have hs := HS.out
      rw [List.take_length] at hs
      exact ⟨by rw [idx_no l hs]; rfl, HB.out⟩
end Go.Proofs.YtpejloegidailaaDoor.An
