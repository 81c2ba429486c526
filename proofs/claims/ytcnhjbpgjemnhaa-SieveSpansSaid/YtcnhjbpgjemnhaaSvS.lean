/- SieveSpans: a span keeps just what all its eras together keep. -/
import Derived.Test.YtcnhjbpgjemnhaaSvD
import Derived.Test.YtcnhjbpgjemnhaaSvW
namespace Go.Proofs.Ytcnhjbpgjemnhaa.Sv
open Go.RowKit Go.Proofs.YtcnhjbpgjemnhaaW.PrintWords Go.Proofs.YtcnhjbpgjemnhaaW.PrintLast Go.Proofs.YtcnhjbpgjemnhaaW.PrintMore Go.Proofs.Ytcnhjbpgjemnhaa.X
set_option linter.unusedVariables false
set_option linter.unusedSimpArgs false
attribute [local go_sem ↓] Go.wp_at_zero Go.wp_at_succ

def eraL (lo : Int) (q : Nat) : List Int := (List.range q).map fun (j : Nat) => lo + (j : Int)
def spaL (lo : Int) (q : Nat) : List S41 := (List.range q).map fun (j : Nat) => ⟨true, lo + (j : Int), lo + (j : Int)⟩
theorem eraL_succ (lo : Int) (q : Nat) : eraL lo (q + 1) = eraL lo q ++ [lo + (q : Int)] := by simp [eraL, List.range_succ]
theorem spaL_succ (lo : Int) (q : Nat) : spaL lo (q + 1) = spaL lo q ++ [⟨true, lo + (q : Int), lo + (q : Int)⟩] := by simp [spaL, List.range_succ]
theorem eraL_len (lo : Int) (q : Nat) : (eraL lo q).length = q := by simp [eraL]
theorem spaL_len (lo : Int) (q : Nat) : (spaL lo q).length = q := by simp [spaL]
theorem span_era (l : List S39) (lo : Int) (n : Nat) (h : ∀ x ∈ l, x.f1 ≤ x.f2) (h1 : 1 ≤ lo) (hn : 1 ≤ n) : (l.filter fun x => !spB [⟨true, lo, lo + (n : Int) - 1⟩] x) = l.filter fun x => !erB (eraL lo n) x := by
  refine List.filter_congr (fun x hx => ?_)
  have hx := h x hx
  congr 1
  rw [Bool.eq_iff_iff]
  unfold spB erB eraL
  simp only [List.any_cons, List.any_nil, Bool.or_false, List.any_map, List.any_eq_true, List.mem_range, Function.comp, Bool.and_eq_true, decide_eq_true_eq, true_and]
  constructor
  · rintro ⟨ha, hb⟩
    refine ⟨(max x.f1 lo - lo).toNat, ?_, ?_, ?_, ?_⟩ <;> omega
  · rintro ⟨j, hj, _, ha, hb⟩
    omega
theorem era_span (l : List S39) (lo : Int) (n : Nat) (h1 : 1 ≤ lo) : (l.filter fun x => !erB (eraL lo n) x) = l.filter fun x => !spB (spaL lo n) x := by
  refine List.filter_congr (fun x _ => ?_)
  congr 1
  rw [Bool.eq_iff_iff]
  unfold spB erB eraL spaL
  simp only [List.any_map, List.any_eq_true, List.mem_range, Function.comp, Bool.and_eq_true, decide_eq_true_eq, true_and]
  constructor
  · rintro ⟨j, hj, _, ha, hb⟩
    exact ⟨j, hj, hb, ha⟩
  · rintro ⟨j, hj, ha, hb⟩
    exact ⟨j, hj, by omega, hb, ha⟩
theorem one_mod (x k : Int) (hk : 0 < k) (hk2 : k ≤ 1000) : ∃ z : Nat, wrap64 (1 + wrap64 ((IntKind.u64.wrap x).tmod k)) = (z : Int) ∧ 1 ≤ z ∧ (z : Int) ≤ k := by
  have h0 : 0 ≤ IntKind.u64.wrap x := by rw [IntKind.wrap_u64]; omega
  have h1 : (IntKind.u64.wrap x).tmod k = IntKind.u64.wrap x % k := Int.tmod_eq_emod_of_nonneg h0
  have h2 := Int.emod_nonneg (IntKind.u64.wrap x) (show k ≠ 0 by omega)
  have h3 := Int.emod_lt_of_pos (IntKind.u64.wrap x) hk
  rw [h1]
  generalize IntKind.u64.wrap x % k = y at *
  have h4 : wrap64 y = y := (i64_w y).symm.trans (IntWalk.i64_in y (by omega))
  have h5 : wrap64 (1 + y) = 1 + y := (i64_w _).symm.trans (IntWalk.i64_in _ (by omega))
  rw [h4, h5]
  exact ⟨(1 + y).toNat, by omega, by omega, by omega⟩

set_option maxHeartbeats 4000000 in
set_option maxRecDepth 100000 in
theorem spans_walk (A : Option Addr) (c : Nat) (l : List S39) (low many : Int) (w : World) (ca : Kd.C k39 w A l.length l) (hc : l.length ≤ c) (h1 : I64 low) (h2 : I64 many) :
    Calls Try.prog 7 #[.slice A l.length c, .int .i64 low, .int .i64 many] w fun e w' => e = .returned (.bool true) ∧ Below w.heap.size w w' := by
  have hu39 := Try.underlying39
  have hu41 := Try.underlying41
  have hla := Kd.C_max ca
  obtain ⟨lo, hlo, hlo1, hlo2⟩ := one_mod low 100 (by omega) (by omega)
  obtain ⟨n, hn, hn1, hn2⟩ := one_mod many 40 (by omega) (by omega)
  have CA := Aside0.mk ca
  clear ca
  go_enter Try.func7, Try.ntmps7
  go_wp2_with fail
  refine (awake_c _).mono ?_
  rintro e w2 ⟨rfl, hb1⟩
  have HB := Aside0.mk hb1
  clear hb1
  by_cases h60 : l.length ≤ 60
  · have h61 : ¬ (60 : Int) < (l.length : Int) := by omega
    go_wp2
    simp only [hlo, hn]
    clear hlo hn
    go_loopw [8] (fun i wr => ∃ q : Nat, q ≤ l.length ∧ i = .int .i64 q ∧ Aside0 (∀ x ∈ l.take q, x.f1 ≤ x.f2) ∧ Aside0 (Below w.heap.size w wr)) (fun i _ => l.length - (intOf i).toNat)
    case atStart => exact ⟨0, by omega, rfl, ⟨by simp⟩, HB⟩
    case round =>
      clear HB
      obtain ⟨k, hkl, rfl, HL, HB⟩ := hrel
      by_cases hlt : k < l.length
      · have hkk : (0 : Int) ≤ (k : Int) := by omega
        have hkn : (k : Int) < (l.length : Int) := by omega
        obtain ⟨ad, eA, q0, q1, q2, q3, q4, q5, q6⟩ := at_T39 CA.out (k : Int) (by omega) (by omega)
        replace q0 := pw_cell_below HB.out q0
        replace q1 := pw_cell_below HB.out q1
        replace q2 := pw_cell_below HB.out q2
        replace q3 := pw_cell_below HB.out q3
        replace q4 := pw_cell_below HB.out q4
        replace q5 := pw_cell_below HB.out q5
        replace q6 := pw_cell_below HB.out q6
        simp only [Int.toNat_natCast] at q0 q1 q2 q3 q4 q5 q6
        cases eA
        by_cases hbd : (rd_T39 l (k : Int)).f2 < (rd_T39 l (k : Int)).f1
        · go_wp2
          go_quiet (fail)
          go_wp2
          go_ret
          exact ⟨rfl, pw_below_drewN HB.out _⟩
        · have hl2 : Aside0 (∀ x ∈ l.take (k + 1), x.f1 ≤ x.f2) := ⟨by
            have hr : rd_T39 l (k : Int) = l.getD k z39 := by simp [rd_T39]
            rw [take_snoc l z39 k hlt, ← hr]
            intro x hx
            rcases List.mem_append.1 hx with hx | hx
            · exact HL.out x hx
            · obtain rfl := List.mem_singleton.1 hx
              omega⟩
          go_wp2
          go_quiet (fail)
          go_wp2
          go_roundw
          case rel => exact ⟨k + 1, by omega, by go_num, hl2, ⟨pw_below_drewN HB.out _⟩⟩
          case measure => simp [intOf]; omega
      · have hk' : k = l.length := by omega
        subst hk'
        rw [List.take_length] at HL
        obtain ⟨wo, rfl⟩ : ∃ wo : World, wo = wr := ⟨_, rfl⟩
        clear hlt hkl
        have hso := below_size HB.out
        go_wp2
        go_loopw [9, 10, 11] (fun v1 v2 i wr => ∃ q : Nat, q ≤ n ∧ i = .int .i64 q ∧ Aside0 (Kd.R (Kd.int .i64) 3 wr w.heap.size (fun _ => True) v1 (eraL lo q)) ∧ Aside0 (Kd.R k41 41 wr w.heap.size (fun _ => True) v2 (spaL lo q)) ∧ Aside0 (Below w.heap.size w wr)) (fun _ _ i _ => n - (intOf i).toNat)
        case atStart => exact ⟨0, by omega, rfl, ⟨Kd.R_alloc (R_lit_alloc (Kd.int .i64) 3 _ hso (xs := []) (inner := []) (Reps.none _ _) (by simp)) _⟩, ⟨by simpa [spaL] using R_lit_alloc k41 41 (wo.alloc (.cells #[] 3)) (by simp; omega) (xs := []) (inner := []) (Reps.none _ _) (by simp)⟩, ⟨below_alloc (below_alloc HB.out _) _⟩⟩
        case round =>
          clear HB hso
          obtain ⟨q, hqn, rfl, RE, RS, HB⟩ := hrel
          by_cases hq : q < n
          · have hw1 : wrap64 ((lo : Int) + (q : Int)) = (lo : Int) + (q : Int) := (i64_w _).symm.trans (IntWalk.i64_in _ (by omega))
            have hw2 : IntKind.i64.wrap ((lo : Int) + (q : Int)) = (lo : Int) + (q : Int) := IntWalk.i64_in _ (by omega)
            have hle := eraL_len lo q
            have hls := spaL_len lo q
            go_wp2_with (first | ((with_reducible refine gate_builtin (b := .append) (xs := #[.tmp 57, .tmp 61]) rfl ?_); at_builtin; refine Kd.R_append (Kd.int .i64) (w0 := w) w.heap.size rfl (.tmp 57) (.tmp 61) 24 3 _ _ rfl Try.underlying24 info3 rfl (by decide) (by decide) u9 (eraL lo q) ((lo : Int) + (q : Int)) [.int .i64 ((lo : Int) + (q : Int))] (fun _ => True) (fun _ => False) rfl (by first | (go_simp; done) | (go_simp; rfl)) rfl (fun _ h => h.elim) (fun _ _ => trivial) RE.out HB.out (below_size HB.out) (by omega) ?_; intro v3 z3 hR hB hg hat; have hS := Kd.R_over RS.out RE.out (by intro q hq; cases hq with | head => decide | tail _ h => cases h) hg) | ((with_reducible refine gate_builtin (b := .append) (xs := #[.tmp 63, .tmp 71]) rfl ?_); at_builtin; refine Kd.R_append k41 (w0 := w) w.heap.size rfl (.tmp 63) (.tmp 71) 25 41 _ _ rfl Try.underlying25 info41 rfl (by decide) (by decide) u10 (spaL lo q) ⟨true, (lo : Int) + (q : Int), (lo : Int) + (q : Int)⟩ [.bool true, .int .i64 ((lo : Int) + (q : Int)), .int .i64 ((lo : Int) + (q : Int))] (fun _ => True) (fun _ => False) rfl (by first | (go_simp; done) | (go_simp; rfl)) (k41_mkM _ _ _ _) (fun _ h => h.elim) (fun _ _ => trivial) hS hB (below_size hB) (by omega) ?_; intro v4 z4 hR2 hB2 hg2 hat2; have hE := Kd.R_over hR hS (by intro q hq; cases hq with | head => decide | tail _ h => cases h) hg2))
            rw [← eraL_succ] at hE
            rw [← spaL_succ] at hR2
            have HE := Aside0.mk hE
            clear hE
            have HR2 := Aside0.mk hR2
            clear hR2
            have HB2 := Aside0.mk hB2
            clear hB2
            clear hR hB hg hat hS hg2 hat2 RE RS HB
            go_roundw
            case rel => exact ⟨q + 1, by omega, by go_num, HE, HR2, HB2⟩
            case measure => simp [intOf]; omega
          · have hqe : q = n := by omega
            subst hqe
            have hq0 : ((q : Nat) : Int) ≤ q := by omega
            obtain ⟨wo, rfl⟩ : ∃ wo : World, wo = wr := ⟨_, rfl⟩
            have hw1 : wrap64 ((lo : Int) + (q : Int)) = (lo : Int) + (q : Int) := (i64_w _).symm.trans (IntWalk.i64_in _ (by omega))
            have hw2 : IntKind.i64.wrap ((lo : Int) + (q : Int)) = (lo : Int) + (q : Int) := IntWalk.i64_in _ (by omega)
            have hw3 : wrap64 ((lo : Int) + (q : Int) - 1) = (lo : Int) + (q : Int) - 1 := (i64_w _).symm.trans (IntWalk.i64_in _ (by omega))
            have hw4 : IntKind.i64.wrap ((lo : Int) + (q : Int) - 1) = (lo : Int) + (q : Int) - 1 := IntWalk.i64_in _ (by omega)
            go_wp2_with fail
            refine (Spans_s (Sl_mk (Kd.C_below CA.out (below_alloc HB.out _)) hc) (by omega) (Sl_sc (Sl_blk (xs := [⟨true, (lo : Int), (lo : Int) + (q : Int) - 1⟩]) (blk_new _ _) (Reps.cons (k41_mk _ ⟨true, (lo : Int), (lo : Int) + (q : Int) - 1⟩) rfl (Reps.none _ _)) (by simp)))).mono ?_
            rintro e w5 ⟨a1, b1, rfl, R1, _, hb⟩
            replace hb := below_step (below_alloc (Below.refl _ _) _) hb
            replace HB := Aside0.mk (below_step HB.out hb)
            replace RE := Aside0.mk (Sl_below (Sl_R RE.out) hb)
            replace RS := Aside0.mk (Sl_below (Sl_R RS.out) hb)
            replace R1 := Aside0.mk R1
            clear hb
            go_wp2_with fail
            refine (Eras_s (Sl_mk (Kd.C_below CA.out HB.out) hc) (by omega) (Sl_sc RE.out)).mono ?_
            rintro e w6 ⟨a2, b2, rfl, R2, _, hb⟩
            replace HB := Aside0.mk (below_step HB.out hb)
            replace RS := Aside0.mk (Sl_below RS.out hb)
            replace R1 := Aside0.mk (Sl_below R1.out hb)
            replace R2 := Aside0.mk R2
            clear hb
            go_wp2_with fail
            refine (Spans_s (Sl_mk (Kd.C_below CA.out HB.out) hc) (by omega) (Sl_sc RS.out)).mono ?_
            rintro e w7 ⟨a3, b3, rfl, R3, _, hb⟩
            replace HB := Aside0.mk (below_step HB.out hb)
            replace R1 := Aside0.mk (Sl_below R1.out hb)
            replace R2 := Aside0.mk (Sl_below R2.out hb)
            replace R3 := Aside0.mk R3
            clear hb
            go_wp2_with fail
            refine (same_s R1.out R2.out).mono ?_
            rintro e w8 ⟨rfl, hb⟩
            rw [decide_eq_true (span_era l lo q HL.out (by omega) (by omega))]
            replace HB := Aside0.mk (below_step HB.out hb)
            replace R2 := Aside0.mk (Sl_below R2.out hb)
            replace R3 := Aside0.mk (Sl_below R3.out hb)
            clear hb
            go_wp2_with fail
            refine (same_s R2.out R3.out).mono ?_
            rintro e w9 ⟨rfl, hb⟩
            rw [decide_eq_true (era_span l lo q (by omega))]
            replace HB := Aside0.mk (below_step HB.out hb)
            clear hb
            go_wp2
            go_ret
            exact ⟨rfl, HB.out⟩
  · have h61 : (60 : Int) < (l.length : Int) := by omega
    go_wp2
    go_ret
    exact ⟨rfl, HB.out⟩
end Go.Proofs.Ytcnhjbpgjemnhaa.Sv
