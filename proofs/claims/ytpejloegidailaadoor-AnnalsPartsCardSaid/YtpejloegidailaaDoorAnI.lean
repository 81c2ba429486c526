/- AnnalsParts' walk. (Partly printed by gen_parts.py.) -/
import Derived.Test.YtpejloegidailaaDoorAnH
namespace Go.Proofs.YtpejloegidailaaDoor.An
open Go.RowKit Go.Proofs.YtpejloegidailaaDoorW.PrintWords Go.Proofs.YtpejloegidailaaDoorW.PrintLast Go.Proofs.YtpejloegidailaaDoorW.PrintMore Go.Proofs.YtpejloegidailaaDoor.X
set_option linter.unusedVariables false
set_option linter.unusedSimpArgs false
attribute [local go_sem high] eqA38 eqA36 eqA40

theorem evsM_append (a b : List Bt) : evsM (a ++ b) = evsM a ++ evsM b := by simp [evsM]
theorem evB_len (x : Bt) (b1 b4 : Bool) (h1 : x.f1 = b1) (h4 : x.f4 = b4) : (evB x).length = (if b1 then 1 else 0) + (if b4 then 1 else 0) := by
  unfold evB
  rw [h1, h4]
  cases b1 <;> cases b4 <;> rfl
theorem u_pos (a : Int) : 0 ≤ IntKind.u64.wrap a := by
  have h : IntKind.u64.wrap a = a % 18446744073709551616 := by simp [IntKind.wrap, IntKind.bits, IntKind.signed]
  rw [h]
  exact Int.emod_nonneg _ (by decide)
theorem u_rem (a : Int) (n : Nat) : ∃ k : Nat, (IntKind.u64.wrap a).tmod ((n : Int) + 1) = (k : Int) ∧ k ≤ n := by
  have h := u_pos a
  have h1 : (IntKind.u64.wrap a).tmod ((n : Int) + 1) = (IntKind.u64.wrap a) % ((n : Int) + 1) := Int.tmod_eq_emod_of_nonneg h
  have h2 := Int.emod_nonneg (IntKind.u64.wrap a) (show (n : Int) + 1 ≠ 0 by omega)
  have h3 := Int.emod_lt_of_pos (IntKind.u64.wrap a) (show (0 : Int) < (n : Int) + 1 by omega)
  exact ⟨((IntKind.u64.wrap a) % ((n : Int) + 1)).toNat, by rw [h1]; omega, by omega⟩
theorem events_s (A : Option Addr) (c : Nat) (l : List Bt) (w : World) (hl : Kd.C k48 w A l.length l) (hlim : l.length ≤ 1000000) :
    Calls Tryd.prog 15 #[.slice A l.length c] w fun e w' => ∃ A' c', e = .returned (.slice A' (evsM l).length c') ∧ Kd.C k44 w' A' (evsM l).length (evsM l) ∧ Below w.heap.size w w' := by
  refine (events_c A c l w hl hlim).mono ?_
  rintro e w1 ⟨v, rfl, hR, hb⟩
  obtain ⟨A', c', rfl⟩ := Kd.R_slice hR
  exact ⟨A', c', rfl, (Kd.R_reads' hR).2.2, hb⟩
def parts.T15 : Bool × List (List Nat × List Nat) := (true, [([], []), ([0], [0]), ([], []), ([1, 2], [1, 2]), ([3], [3]), ([4], [4]), ([4], [4]), ([5, 6, 4], [4, 5, 6]), ([7, 4, 4], [4, 7]), ([4], [4]), ([4], [4]), ([9, 10, 4], [4, 9, 10]), ([11, 8, 4], [4, 11]), ([8, 12, 12, 4], [4, 8, 12]), ([4], [4]), ([13, 14, 13, 4], [4, 13, 14]), ([4, 15], [4, 15]), ([16, 15, 0, 1, 2, 3, 4, 5, 6, 7, 8, 9, 10, 11, 12, 13, 14, 15, 16], [16])])
def parts.B15 : List Nat := [0, 1, 0, 7, 15, 31, 31, 127, 255, 31, 31, 1567, 4095, 8191, 31, 32767, 65535, 131071]
theorem parts.tab15 : rtab .any (opsOf Tryd.f6 15) = parts.T15 := by kernel_rfl
theorem parts.bits15 : waitsOk parts.T15.2 parts.B15 = true := by kernel_rfl
set_option maxHeartbeats 4000000 in
theorem parts_walk (A0 : Option Addr) (c0 : Nat) (l0 : List Bt) (a1 : Int) (aA aS : Addr) (W : World) (hC0 : Kd.C k48 W A0 l0.length l0) (hl0 : l0.length ≤ c0) (wa1 : I64 a1) (hA : W.cell? gA = some (Sent aA)) (hS : W.cell? gS = some (Sent aS)) :
    Calls Tryd.prog 6 #[.slice A0 l0.length c0, .int .i64 a1] W fun e w' => e = .returned (.bool true) ∧ Below W.heap.size W w' := by
  have h1 := Tryd.underlying48
  obtain ⟨i48, hi48, hs48⟩ := Option.map_eq_some_iff.1 (show (Tryd.prog.info? 48).map (·.size) = some 10 by kernel_rfl)
  have HI := hi48
  have hlen := Kd.C_max hC0
  have HC0 := Aside0.mk hC0
  clear hC0
  have HA := Aside0.mk hA
  clear hA
  have HS := Aside0.mk hS
  clear hS
  go_enter Tryd.func6, Tryd.ntmps6
  go_wp2_with fail
  refine (awake_c aA aS W HA.out HS.out).mono ?_
  rintro e w1 ⟨rfl, hb⟩
  have HB := Aside0.mk hb
  clear hb
  by_cases g0 : 200 < l0.length
  · have g0' : (200 : Int) < (l0.length : Int) := by omega
    go_wp2
    go_ret
    exact ⟨rfl, HB.out⟩
  · have g0' : (l0.length : Int) ≤ 200 := by omega
    have g0'' : decide ((200 : Int) < (l0.length : Int)) = false := by simp; omega
    obtain ⟨kk, hkk, hkl⟩ := u_rem a1 l0.length
    go_wp2
    go_loopw [6, 7] (fun n i wr => ∃ k : Nat, k ≤ l0.length ∧ i = .int .i64 k ∧ n = .int .i64 (evsM (l0.take k)).length ∧ Below W.heap.size W wr) (fun _ i _ => l0.length - (intOf i).toNat)
    case atStart => exact ⟨0, Nat.zero_le _, rfl, rfl, HB.out⟩
    case round =>
      clear HB
      obtain ⟨k, hkl1, rfl, rfl, hb⟩ := hrel
      have HB := Aside0.mk hb
      clear hb
      by_cases hlt : k < l0.length
      · obtain ⟨ad, eA, q0, q1, q2, q3, q4, q5, q6, q7, q8, q9⟩ := at_T48 HC0.out (k : Int) (by omega) (by omega)
        replace q0 := pw_cell_below HB.out q0
        replace q1 := pw_cell_below HB.out q1
        replace q2 := pw_cell_below HB.out q2
        replace q3 := pw_cell_below HB.out q3
        replace q4 := pw_cell_below HB.out q4
        replace q5 := pw_cell_below HB.out q5
        replace q6 := pw_cell_below HB.out q6
        replace q7 := pw_cell_below HB.out q7
        replace q8 := pw_cell_below HB.out q8
        replace q9 := pw_cell_below HB.out q9
        simp only [Int.toNat_natCast] at q0 q1 q2 q3 q4 q5 q6 q7 q8 q9
        cases eA
        have f1 := evsM_snoc l0 k hlt
        have n1 : (evsM (l0.take k)).length ≤ 2 * k := Nat.le_trans (evsM_length _) (by simp; omega)
        have hlb : ∀ b1 b4, (rd_T48 l0 (k : Int)).f1 = b1 → (rd_T48 l0 (k : Int)).f4 = b4 → (evsM (l0.take (k + 1))).length = (evsM (l0.take k)).length + ((if b1 then 1 else 0) + (if b4 then 1 else 0)) := fun b1 b4 e1 e4 => by
          rw [f1, List.length_append, evB_len _ b1 b4 e1 e4]
        clear f1 q0 q2 q3 q4 q5 q6 q8 q9
        cases t1 : (rd_T48 l0 (k : Int)).f1
        all_goals
          rw [t1] at q1
          cases t4 : (rd_T48 l0 (k : Int)).f4
          all_goals
            rw [t4] at q7
            have hl2 := hlb _ _ t1 t4
            simp only [if_true, Bool.false_eq_true, if_false] at hl2
            have HL2 := Aside0.mk hl2
            clear hl2
            clear hlb t1 t4
            go_wp2
            go_roundw
            case rel => exact ⟨k + 1, by omega, by go_num, (by rw [HL2.out]; go_num), HB.out⟩
            case measure => simp [intOf]; omega
      · obtain rfl : k = l0.length := by omega
        rw [List.take_length]
        go_wp2_with fail
        refine (events_c A0 c0 l0 _ (Kd.C_below HC0.out HB.out) (by omega)).mono ?_
        rintro e w2 ⟨v8, rfl, hr8, hb⟩
        have HB2 := Aside0.mk (below_step HB.out hb)
        obtain ⟨A8, c8, rfl⟩ := Kd.R_slice hr8
        have S8 := Aside0.mk (Sl_R hr8)
        clear hb hr8
        have hcut1 : ∀ w : World, (Instr.slice 45 (.slice A0 l0.length c0) none (some (.int .i64 (kk : Int))) none).run Tryd.prog w = .ok (.slice A0 (l0.take kk).length c0) w := fun w => by
          have := cut_to (P := Tryd.prog) 45 48 .i64 Tryd.underlying45 hi48 A0 l0.length c0 (kk : Int) (by omega) (by omega) hl0 w
          rw [this, Int.toNat_natCast, List.length_take, Nat.min_eq_left hkl]
        obtain ⟨B0, hB0⟩ : ∃ B, B = (if c0 = kk then A0 else A0.map (·.add (kk * 10))) := ⟨_, rfl⟩
        have hcut2 : ∀ w : World, (Instr.slice 45 (.slice A0 l0.length c0) (some (.int .i64 (kk : Int))) none none).run Tryd.prog w = .ok (.slice B0 (l0.drop kk).length (c0 - kk)) w := fun w => by
          have := cut_from (P := Tryd.prog) 45 48 .i64 Tryd.underlying45 hi48 10 hs48 A0 l0.length c0 (kk : Int) (by omega) (by omega) w
          rw [this, Int.toNat_natCast, List.length_drop, hB0]
        have C1 := Aside0.mk (Kd.C_take HC0.out hkl)
        have C2 := Aside0.mk (show Kd.C k48 W B0 (l0.drop kk).length (l0.drop kk) by rw [hB0]; exact Kd.C_drop (c := c0) HC0.out hkl hl0)
        have T1 := Aside0.mk (show evsM (l0.take kk) ++ evsM (l0.drop kk) = evsM l0 by rw [← evsM_append, List.take_append_drop])
        have hm1 : (l0.take kk).length ≤ 1000000 := by simp; omega
        have hm2 : (l0.drop kk).length ≤ 1000000 := by simp; omega
        have hm3 := evsM_length (l0.take kk)
        have hm4 := evsM_length (l0.drop kk)
        have hm5 : (l0.take kk).length ≤ 200 := by simp; omega
        have hm6 : (l0.drop kk).length ≤ 200 := by simp; omega
        have HCUT1 := Aside0.mk hcut1
        clear hcut1
        have HCUT2 := Aside0.mk hcut2
        clear hcut2
        have HKK := Aside0.mk hkk
        clear hkk
        clear g0 g0' g0'' hkl1 hlt hlen hB0 HI
        go_wp2
        refine start_ (n := 18) (S := fun w' => True) (ds := []) #[false, false, false, false, false, false, false, false, false, false, false, false, false, false, false, false, false, false] (by kernel_rfl) rfl rfl trivial (fun hHeld => ?_)
        refine with_tabW parts.tab15 parts.bits15 (fun HT_ HW_ => ?_)
        have HBr := Aside0.mk (below_drew1 (Below.refl w2.heap.size w2))
        refine inv_at [0, 1, 2, 3, 4, 5, 6, 7, 8, 9, 10, 11, 12, 13, 14, 15, 16, 17] (fun a0_ b a w' => ∃ (v52_ : Value) (A56_ : Option Addr) (c56_ : Nat) (v57_ : Value) (m12_ : Value), a = putSel a0_ b [(0, 44, .slice A8 (evsM l0).length c8), (1, 45, .int .i64 ((evsM l0).length : Int)), (2, 46, .int .i64 ((evsM l0).length : Int)), (3, 47, .bool true), (4, 48, .bool true), (5, 49, .slice A0 l0.length c0), (6, 50, .int .i64 (kk : Int)), (7, 51, .slice A0 (l0.take kk).length c0), (8, 52, v52_), (9, 53, .slice A0 l0.length c0), (10, 54, .int .i64 (kk : Int)), (11, 55, .slice B0 (l0.drop kk).length (c0 - kk)), (12, 56, m12_), (13, 57, v57_), (14, 58, .slice A8 (evsM l0).length c8), (15, 59, .bool true), (16, 60, .bool true), (17, 4, .bool true)] ∧ (Below w2.heap.size w2 w') ∧ (b 8 = true → b 13 = false → Kd.R k44 44 w' w2.heap.size (fun _ => True) v52_ (evsM (l0.take kk))) ∧ (b 12 = true → b 13 = false → Kd.C k44 w' A56_ (evsM (l0.drop kk)).length (evsM (l0.drop kk))) ∧ (b 13 = true → Kd.R k44 44 w' w2.heap.size (fun _ => True) v57_ (evsM (l0.take kk) ++ evsM (l0.drop kk))) ∧ (b 12 = true → (m12_ : Value) = .slice A56_ (evsM (l0.drop kk)).length c56_)) HT_.out HW_.out (by kernel_rfl) (by kernel_rfl) ?_ ?_ ?_
        · exact ⟨.bool false, none, 0, .bool false, .bool false, by simp only [putSel, Bool.false_eq_true, if_false], HBr.out, fun h_ => absurd h_ (by decide), fun h_ => absurd h_ (by decide), fun h_ => absurd h_ (by decide), fun h_ => absurd h_ (by decide)⟩
        · skip
          clear HBr
          refine steps_cons ?_ ?_
          · rintro b a w' ⟨v52_, A56_, c56_, v57_, m12_, ha, Q_HBr, Q_RO52, Q_RW56, Q_RO57, Q_X12_⟩ hb_ hon hoff
            refine ⟨_, rfl, fun K hK => ?_⟩
            have e8 : a.tmps[8]? = some (.slice A8 (evsM l0).length c8) := by rw [ha]; exact (putSel_off rfl).trans rfl
            replace ha := Aside0.mk ha
            have HBr := Aside0.mk Q_HBr
            refine value_ (w1 := w') (v := .slice A8 (evsM l0).length c8) ?cA ?cB ?_ ?_
            case cA => rfl
            case cB => rfl
            · go_simp
              (try simp only [i64_w])
              try rfl
            refine hK.out _ _ ⟨v52_, A56_, c56_, v57_, m12_, (by rw [ha.out]; exact putSel_upk 0 hb_ rfl rfl rfl), Q_HBr, fun h0_ _ => absurd ((hoff 8 (by kernel_rfl)).symm.trans h0_) (by decide), fun h0_ _ => absurd ((hoff 12 (by kernel_rfl)).symm.trans h0_) (by decide), fun h0_ => absurd ((hoff 13 (by kernel_rfl)).symm.trans h0_) (by decide), fun h0_ => absurd ((hoff 12 (by kernel_rfl)).symm.trans h0_) (by decide)⟩
          refine steps_cons ?_ ?_
          · rintro b a w' ⟨v52_, A56_, c56_, v57_, m12_, ha, Q_HBr, Q_RO52, Q_RW56, Q_RO57, Q_X12_⟩ hb_ hon hoff
            refine ⟨_, rfl, fun K hK => ?_⟩
            have e44 : a.tmps[44]? = some (.slice A8 (evsM l0).length c8) := by rw [ha]; exact putSel_on (e := (0, 44, .slice A8 (evsM l0).length c8)) 0 rfl rfl (hon 0 (by kernel_rfl)) rfl
            replace ha := Aside0.mk ha
            have HBr := Aside0.mk Q_HBr
            refine value_ (w1 := w') (v := .int .i64 ((evsM l0).length : Int)) ?cA ?cB ?_ ?_
            case cA => rfl
            case cB => rfl
            · go_simp
              (try simp only [i64_w])
              try rfl
            refine hK.out _ _ ⟨v52_, A56_, c56_, v57_, m12_, (by rw [ha.out]; exact putSel_upk 1 hb_ rfl rfl rfl), Q_HBr, fun h0_ _ => absurd ((hoff 8 (by kernel_rfl)).symm.trans h0_) (by decide), fun h0_ _ => absurd ((hoff 12 (by kernel_rfl)).symm.trans h0_) (by decide), fun h0_ => absurd ((hoff 13 (by kernel_rfl)).symm.trans h0_) (by decide), fun h0_ => absurd ((hoff 12 (by kernel_rfl)).symm.trans h0_) (by decide)⟩
          refine steps_cons ?_ ?_
          · rintro b a w' ⟨v52_, A56_, c56_, v57_, m12_, ha, Q_HBr, Q_RO52, Q_RW56, Q_RO57, Q_X12_⟩ hb_ hon hoff
            refine ⟨_, rfl, fun K hK => ?_⟩
            have e6 : a.tmps[6]? = some (.int .i64 ((evsM l0).length : Int)) := by rw [ha]; exact (putSel_off rfl).trans rfl
            replace ha := Aside0.mk ha
            have HBr := Aside0.mk Q_HBr
            refine value_ (w1 := w') (v := .int .i64 ((evsM l0).length : Int)) ?cA ?cB ?_ ?_
            case cA => rfl
            case cB => rfl
            · go_simp
              (try simp only [i64_w])
              try rfl
            refine hK.out _ _ ⟨v52_, A56_, c56_, v57_, m12_, (by rw [ha.out]; exact putSel_upk 2 hb_ rfl rfl rfl), Q_HBr, fun h0_ _ => absurd ((hoff 8 (by kernel_rfl)).symm.trans h0_) (by decide), fun h0_ _ => absurd ((hoff 12 (by kernel_rfl)).symm.trans h0_) (by decide), fun h0_ => absurd ((hoff 13 (by kernel_rfl)).symm.trans h0_) (by decide), fun h0_ => absurd ((hoff 12 (by kernel_rfl)).symm.trans h0_) (by decide)⟩
          refine steps_cons ?_ ?_
          · rintro b a w' ⟨v52_, A56_, c56_, v57_, m12_, ha, Q_HBr, Q_RO52, Q_RW56, Q_RO57, Q_X12_⟩ hb_ hon hoff
            refine ⟨_, rfl, fun K hK => ?_⟩
            have e45 : a.tmps[45]? = some (.int .i64 ((evsM l0).length : Int)) := by rw [ha]; exact putSel_on (e := (1, 45, .int .i64 ((evsM l0).length : Int))) 1 rfl rfl (hon 1 (by kernel_rfl)) rfl
            have e46 : a.tmps[46]? = some (.int .i64 ((evsM l0).length : Int)) := by rw [ha]; exact putSel_on (e := (2, 46, .int .i64 ((evsM l0).length : Int))) 2 rfl rfl (hon 2 (by kernel_rfl)) rfl
            replace ha := Aside0.mk ha
            have HBr := Aside0.mk Q_HBr
            refine value_ (w1 := w') (v := .bool true) ?cA ?cB ?_ ?_
            case cA => rfl
            case cB => rfl
            · go_simp
              (try simp only [i64_w])
              try rfl
            refine hK.out _ _ ⟨v52_, A56_, c56_, v57_, m12_, (by rw [ha.out]; exact putSel_upk 3 hb_ rfl rfl rfl), Q_HBr, fun h0_ _ => absurd ((hoff 8 (by kernel_rfl)).symm.trans h0_) (by decide), fun h0_ _ => absurd ((hoff 12 (by kernel_rfl)).symm.trans h0_) (by decide), fun h0_ => absurd ((hoff 13 (by kernel_rfl)).symm.trans h0_) (by decide), fun h0_ => absurd ((hoff 12 (by kernel_rfl)).symm.trans h0_) (by decide)⟩
          refine steps_cons ?_ ?_
          · rintro b a w' ⟨v52_, A56_, c56_, v57_, m12_, ha, Q_HBr, Q_RO52, Q_RW56, Q_RO57, Q_X12_⟩ hb_ hon hoff
            refine ⟨_, rfl, fun K hK => ?_⟩
            have e47 : a.tmps[47]? = some (.bool true) := by rw [ha]; exact putSel_on (e := (3, 47, .bool true)) 3 rfl rfl (hon 3 (by kernel_rfl)) rfl
            replace ha := Aside0.mk ha
            have HBr := Aside0.mk Q_HBr
            refine value_ (w1 := w') (v := .bool true) ?cA ?cB ?_ ?_
            case cA => rfl
            case cB => rfl
            · go_simp
              (try simp only [i64_w])
              try rfl
            refine hK.out _ _ ⟨v52_, A56_, c56_, v57_, m12_, (by rw [ha.out]; exact putSel_upk 4 hb_ rfl rfl rfl), Q_HBr, fun h0_ _ => absurd ((hoff 8 (by kernel_rfl)).symm.trans h0_) (by decide), fun h0_ _ => absurd ((hoff 12 (by kernel_rfl)).symm.trans h0_) (by decide), fun h0_ => absurd ((hoff 13 (by kernel_rfl)).symm.trans h0_) (by decide), fun h0_ => absurd ((hoff 12 (by kernel_rfl)).symm.trans h0_) (by decide)⟩
          refine steps_cons ?_ ?_
          · rintro b a w' ⟨v52_, A56_, c56_, v57_, m12_, ha, Q_HBr, Q_RO52, Q_RW56, Q_RO57, Q_X12_⟩ hb_ hon hoff
            refine ⟨_, rfl, fun K hK => ?_⟩
            have e0 : a.tmps[0]? = some (.slice A0 l0.length c0) := by rw [ha]; exact (putSel_off rfl).trans rfl
            have e48 : a.tmps[48]? = some (.bool true) := by rw [ha]; exact putSel_on (e := (4, 48, .bool true)) 4 rfl rfl (hon 4 (by kernel_rfl)) rfl
            replace ha := Aside0.mk ha
            have HBr := Aside0.mk Q_HBr
            refine value_ (w1 := w') (v := .slice A0 l0.length c0) (wanted_on rfl rfl rfl (e48.trans (by first | rfl | (simp [*]; done)))) rfl ?_ ?_
            · go_simp
              (try simp only [i64_w])
              try rfl
            refine hK.out _ _ ⟨v52_, A56_, c56_, v57_, m12_, (by rw [ha.out]; exact putSel_upk 5 hb_ rfl rfl rfl), Q_HBr, fun h0_ _ => absurd ((hoff 8 (by kernel_rfl)).symm.trans h0_) (by decide), fun h0_ _ => absurd ((hoff 12 (by kernel_rfl)).symm.trans h0_) (by decide), fun h0_ => absurd ((hoff 13 (by kernel_rfl)).symm.trans h0_) (by decide), fun h0_ => absurd ((hoff 12 (by kernel_rfl)).symm.trans h0_) (by decide)⟩
          refine steps_cons ?_ ?_
          · rintro b a w' ⟨v52_, A56_, c56_, v57_, m12_, ha, Q_HBr, Q_RO52, Q_RW56, Q_RO57, Q_X12_⟩ hb_ hon hoff
            refine ⟨_, rfl, fun K hK => ?_⟩
            have e5 : a.tmps[5]? = some (.int .i64 (kk : Int)) := by rw [ha]; exact (putSel_off rfl).trans rfl
            have e48 : a.tmps[48]? = some (.bool true) := by rw [ha]; exact putSel_on (e := (4, 48, .bool true)) 4 rfl rfl (hon 4 (by kernel_rfl)) rfl
            replace ha := Aside0.mk ha
            have HBr := Aside0.mk Q_HBr
            refine value_ (w1 := w') (v := .int .i64 (kk : Int)) (wanted_on rfl rfl rfl (e48.trans (by first | rfl | (simp [*]; done)))) rfl ?_ ?_
            · go_simp
              (try simp only [i64_w])
              try rfl
            refine hK.out _ _ ⟨v52_, A56_, c56_, v57_, m12_, (by rw [ha.out]; exact putSel_upk 6 hb_ rfl rfl rfl), Q_HBr, fun h0_ _ => absurd ((hoff 8 (by kernel_rfl)).symm.trans h0_) (by decide), fun h0_ _ => absurd ((hoff 12 (by kernel_rfl)).symm.trans h0_) (by decide), fun h0_ => absurd ((hoff 13 (by kernel_rfl)).symm.trans h0_) (by decide), fun h0_ => absurd ((hoff 12 (by kernel_rfl)).symm.trans h0_) (by decide)⟩
          refine steps_cons ?_ ?_
          · rintro b a w' ⟨v52_, A56_, c56_, v57_, m12_, ha, Q_HBr, Q_RO52, Q_RW56, Q_RO57, Q_X12_⟩ hb_ hon hoff
            refine ⟨_, rfl, fun K hK => ?_⟩
            have e49 : a.tmps[49]? = some (.slice A0 l0.length c0) := by rw [ha]; exact putSel_on (e := (5, 49, .slice A0 l0.length c0)) 5 rfl rfl (hon 5 (by kernel_rfl)) rfl
            have e50 : a.tmps[50]? = some (.int .i64 (kk : Int)) := by rw [ha]; exact putSel_on (e := (6, 50, .int .i64 (kk : Int))) 6 rfl rfl (hon 6 (by kernel_rfl)) rfl
            have e48 : a.tmps[48]? = some (.bool true) := by rw [ha]; exact putSel_on (e := (4, 48, .bool true)) 4 rfl rfl (hon 4 (by kernel_rfl)) rfl
            replace ha := Aside0.mk ha
            have HBr := Aside0.mk Q_HBr
            have z_ := HCUT1.out
            refine value_ (w1 := w') (v := .slice A0 (l0.take kk).length c0) (wanted_on rfl rfl rfl (e48.trans (by first | rfl | (simp [*]; done)))) rfl ?_ ?_
            · go_simp
              (try simp only [i64_w])
              try rfl
            refine hK.out _ _ ⟨v52_, A56_, c56_, v57_, m12_, (by rw [ha.out]; exact putSel_upk 7 hb_ rfl rfl rfl), Q_HBr, fun h0_ _ => absurd ((hoff 8 (by kernel_rfl)).symm.trans h0_) (by decide), fun h0_ _ => absurd ((hoff 12 (by kernel_rfl)).symm.trans h0_) (by decide), fun h0_ => absurd ((hoff 13 (by kernel_rfl)).symm.trans h0_) (by decide), fun h0_ => absurd ((hoff 12 (by kernel_rfl)).symm.trans h0_) (by decide)⟩
          refine steps_cons ?_ ?_
          · rintro b a w' ⟨v52_, A56_, c56_, v57_, m12_, ha, Q_HBr, Q_RO52, Q_RW56, Q_RO57, Q_X12_⟩ hb_ hon hoff
            refine ⟨_, rfl, fun K hK => ?_⟩
            have e51 : a.tmps[51]? = some (.slice A0 (l0.take kk).length c0) := by rw [ha]; exact putSel_on (e := (7, 51, .slice A0 (l0.take kk).length c0)) 7 rfl rfl (hon 7 (by kernel_rfl)) rfl
            have e48 : a.tmps[48]? = some (.bool true) := by rw [ha]; exact putSel_on (e := (4, 48, .bool true)) 4 rfl rfl (hon 4 (by kernel_rfl)) rfl
            replace ha := Aside0.mk ha
            have HBr := Aside0.mk Q_HBr
            refine goes_ Tryd.func15 (by kernel_rfl) rfl #[.slice A0 (l0.take kk).length c0] (wanted_on rfl rfl rfl (e48.trans (by first | rfl | (simp [*]; done)))) rfl rfl (by first | (simp only [List.map_toArray, List.map_cons, List.map_nil, Act.eval, Array.getD_eq_getD_getElem?, Option.getD_some, e51, e48]; done) | (simp only [List.map_toArray, List.map_cons, List.map_nil, Act.eval, Array.getD_eq_getD_getElem?, Option.getD_some, e51, e48]; rfl)) ?_
            refine (events_c _ _ (l0.take kk) _ (Kd.C_below C1.out (below_step HB2.out HBr.out)) (by omega)).mono ?_
            rintro e w1 ⟨z1, rfl, hr1, hb1⟩
            refine ⟨_, rfl, ?_⟩
            refine hK.out _ _ ⟨z1, A56_, c56_, v57_, m12_, (by rw [ha.out]; exact putSel_upk 8 hb_ rfl rfl rfl), below_step HBr.out hb1, fun _ _ => (Kd.R_lower hr1 HBr.out.size), fun h0_ _ => absurd ((hoff 12 (by kernel_rfl)).symm.trans h0_) (by decide), fun h0_ => absurd ((hoff 13 (by kernel_rfl)).symm.trans h0_) (by decide), fun h0_ => absurd ((hoff 12 (by kernel_rfl)).symm.trans h0_) (by decide)⟩
          refine steps_cons ?_ ?_
          · rintro b a w' ⟨v52_, A56_, c56_, v57_, m12_, ha, Q_HBr, Q_RO52, Q_RW56, Q_RO57, Q_X12_⟩ hb_ hon hoff
            refine ⟨_, rfl, fun K hK => ?_⟩
            have e0 : a.tmps[0]? = some (.slice A0 l0.length c0) := by rw [ha]; exact (putSel_off rfl).trans rfl
            have e48 : a.tmps[48]? = some (.bool true) := by rw [ha]; exact putSel_on (e := (4, 48, .bool true)) 4 rfl rfl (hon 4 (by kernel_rfl)) rfl
            replace ha := Aside0.mk ha
            have HBr := Aside0.mk Q_HBr
            refine value_ (w1 := w') (v := .slice A0 l0.length c0) (wanted_on rfl rfl rfl (e48.trans (by first | rfl | (simp [*]; done)))) rfl ?_ ?_
            · go_simp
              (try simp only [i64_w])
              try rfl
            refine hK.out _ _ ⟨v52_, A56_, c56_, v57_, m12_, (by rw [ha.out]; exact putSel_upk 9 hb_ rfl rfl rfl), Q_HBr, Q_RO52, fun h0_ _ => absurd ((hoff 12 (by kernel_rfl)).symm.trans h0_) (by decide), fun h0_ => absurd ((hoff 13 (by kernel_rfl)).symm.trans h0_) (by decide), fun h0_ => absurd ((hoff 12 (by kernel_rfl)).symm.trans h0_) (by decide)⟩
          refine steps_cons ?_ ?_
          · rintro b a w' ⟨v52_, A56_, c56_, v57_, m12_, ha, Q_HBr, Q_RO52, Q_RW56, Q_RO57, Q_X12_⟩ hb_ hon hoff
            refine ⟨_, rfl, fun K hK => ?_⟩
            have e5 : a.tmps[5]? = some (.int .i64 (kk : Int)) := by rw [ha]; exact (putSel_off rfl).trans rfl
            have e48 : a.tmps[48]? = some (.bool true) := by rw [ha]; exact putSel_on (e := (4, 48, .bool true)) 4 rfl rfl (hon 4 (by kernel_rfl)) rfl
            replace ha := Aside0.mk ha
            have HBr := Aside0.mk Q_HBr
            refine value_ (w1 := w') (v := .int .i64 (kk : Int)) (wanted_on rfl rfl rfl (e48.trans (by first | rfl | (simp [*]; done)))) rfl ?_ ?_
            · go_simp
              (try simp only [i64_w])
              try rfl
            refine hK.out _ _ ⟨v52_, A56_, c56_, v57_, m12_, (by rw [ha.out]; exact putSel_upk 10 hb_ rfl rfl rfl), Q_HBr, Q_RO52, fun h0_ _ => absurd ((hoff 12 (by kernel_rfl)).symm.trans h0_) (by decide), fun h0_ => absurd ((hoff 13 (by kernel_rfl)).symm.trans h0_) (by decide), fun h0_ => absurd ((hoff 12 (by kernel_rfl)).symm.trans h0_) (by decide)⟩
          refine steps_cons ?_ ?_
          · rintro b a w' ⟨v52_, A56_, c56_, v57_, m12_, ha, Q_HBr, Q_RO52, Q_RW56, Q_RO57, Q_X12_⟩ hb_ hon hoff
            refine ⟨_, rfl, fun K hK => ?_⟩
            have e53 : a.tmps[53]? = some (.slice A0 l0.length c0) := by rw [ha]; exact putSel_on (e := (9, 53, .slice A0 l0.length c0)) 9 rfl rfl (hon 9 (by kernel_rfl)) rfl
            have e54 : a.tmps[54]? = some (.int .i64 (kk : Int)) := by rw [ha]; exact putSel_on (e := (10, 54, .int .i64 (kk : Int))) 10 rfl rfl (hon 10 (by kernel_rfl)) rfl
            have e48 : a.tmps[48]? = some (.bool true) := by rw [ha]; exact putSel_on (e := (4, 48, .bool true)) 4 rfl rfl (hon 4 (by kernel_rfl)) rfl
            replace ha := Aside0.mk ha
            have HBr := Aside0.mk Q_HBr
            have z_ := HCUT2.out
            refine value_ (w1 := w') (v := .slice B0 (l0.drop kk).length (c0 - kk)) (wanted_on rfl rfl rfl (e48.trans (by first | rfl | (simp [*]; done)))) rfl ?_ ?_
            · go_simp
              (try simp only [i64_w])
              try rfl
            refine hK.out _ _ ⟨v52_, A56_, c56_, v57_, m12_, (by rw [ha.out]; exact putSel_upk 11 hb_ rfl rfl rfl), Q_HBr, Q_RO52, fun h0_ _ => absurd ((hoff 12 (by kernel_rfl)).symm.trans h0_) (by decide), fun h0_ => absurd ((hoff 13 (by kernel_rfl)).symm.trans h0_) (by decide), fun h0_ => absurd ((hoff 12 (by kernel_rfl)).symm.trans h0_) (by decide)⟩
          refine steps_cons ?_ ?_
          · rintro b a w' ⟨v52_, A56_, c56_, v57_, m12_, ha, Q_HBr, Q_RO52, Q_RW56, Q_RO57, Q_X12_⟩ hb_ hon hoff
            refine ⟨_, rfl, fun K hK => ?_⟩
            have e55 : a.tmps[55]? = some (.slice B0 (l0.drop kk).length (c0 - kk)) := by rw [ha]; exact putSel_on (e := (11, 55, .slice B0 (l0.drop kk).length (c0 - kk))) 11 rfl rfl (hon 11 (by kernel_rfl)) rfl
            have e48 : a.tmps[48]? = some (.bool true) := by rw [ha]; exact putSel_on (e := (4, 48, .bool true)) 4 rfl rfl (hon 4 (by kernel_rfl)) rfl
            replace ha := Aside0.mk ha
            have HBr := Aside0.mk Q_HBr
            have RO52 := Aside0.mk (Q_RO52 (hon 8 (by kernel_rfl)) (hoff 13 (by kernel_rfl)))
            refine goes_ Tryd.func15 (by kernel_rfl) rfl #[.slice B0 (l0.drop kk).length (c0 - kk)] (wanted_on rfl rfl rfl (e48.trans (by first | rfl | (simp [*]; done)))) rfl rfl (by first | (simp only [List.map_toArray, List.map_cons, List.map_nil, Act.eval, Array.getD_eq_getD_getElem?, Option.getD_some, e55, e48]; done) | (simp only [List.map_toArray, List.map_cons, List.map_nil, Act.eval, Array.getD_eq_getD_getElem?, Option.getD_some, e55, e48]; rfl)) ?_
            refine (events_s _ _ (l0.drop kk) _ (Kd.C_below C2.out (below_step HB2.out HBr.out)) (by omega)).mono ?_
            rintro e w1 ⟨z1, z2, rfl, hr1, hb1⟩
            refine ⟨_, rfl, ?_⟩
            refine hK.out _ _ ⟨v52_, z1, z2, v57_, (.slice z1 (evsM (l0.drop kk)).length z2), (by rw [ha.out]; exact putSel_upk 12 hb_ rfl rfl rfl), below_step HBr.out hb1, fun _ _ => Kd.R_below RO52.out hb1, fun _ _ => hr1, fun h0_ => absurd ((hoff 13 (by kernel_rfl)).symm.trans h0_) (by decide), fun _ => rfl⟩
          refine steps_cons ?_ ?_
          · rintro b a w' ⟨v52_, A56_, c56_, v57_, m12_, ha, Q_HBr, Q_RO52, Q_RW56, Q_RO57, Q_X12_⟩ hb_ hon hoff
            refine ⟨_, rfl, fun K hK => ?_⟩
            have e52 : a.tmps[52]? = some (v52_) := by rw [ha]; exact putSel_on (e := (8, 52, v52_)) 8 rfl rfl (hon 8 (by kernel_rfl)) rfl
            have e56 : a.tmps[56]? = some (m12_) := by rw [ha]; exact putSel_on (e := (12, 56, m12_)) 12 rfl rfl (hon 12 (by kernel_rfl)) rfl
            rw [Q_X12_ (hon 12 (by kernel_rfl))] at e56
            have e48 : a.tmps[48]? = some (.bool true) := by rw [ha]; exact putSel_on (e := (4, 48, .bool true)) 4 rfl rfl (hon 4 (by kernel_rfl)) rfl
            replace ha := Aside0.mk ha
            have HBr := Aside0.mk Q_HBr
            have RO52 := Aside0.mk (Q_RO52 (hon 8 (by kernel_rfl)) hb_)
            have RW56 := Aside0.mk (Q_RW56 (hon 12 (by kernel_rfl)) hb_)
            refine Kd.R_append_rows_step k44 (w0 := w2) w2.heap.size (wanted_on rfl rfl rfl (e48.trans (by first | rfl | (simp [*]; done)))) (.tmp 52) (.tmp 56) 22 44 _ _ rfl Tryd.underlying22 info44 rfl (by decide) (by decide) v52_ (evsM (l0.take kk)) (evsM (l0.drop kk)) _ _ _ (fun _ => True) (fun _ => False) (by first | (go_simp; done) | (go_simp; rfl)) (by first | (go_simp; done) | (go_simp; rfl)) RO52.out RW56.out (fun _ _ h => h) (fun _ h => h.elim) (fun _ _ => trivial) HBr.out (below_size HBr.out) (by omega) ?_
            intro va_ w1 hR_ hB_ hg_ hat_
            refine hK.out _ _ ⟨v52_, A56_, c56_, va_, m12_, (by rw [ha.out]; exact putSel_upk 13 hb_ rfl rfl rfl), hB_, fun _ h1_ => absurd ((up_self b 13).symm.trans h1_) (by decide), fun _ h1_ => absurd ((up_self b 13).symm.trans h1_) (by decide), fun _ => hR_, Q_X12_⟩
          refine steps_cons ?_ ?_
          · rintro b a w' ⟨v52_, A56_, c56_, v57_, m12_, ha, Q_HBr, Q_RO52, Q_RW56, Q_RO57, Q_X12_⟩ hb_ hon hoff
            refine ⟨_, rfl, fun K hK => ?_⟩
            have e8 : a.tmps[8]? = some (.slice A8 (evsM l0).length c8) := by rw [ha]; exact (putSel_off rfl).trans rfl
            have e48 : a.tmps[48]? = some (.bool true) := by rw [ha]; exact putSel_on (e := (4, 48, .bool true)) 4 rfl rfl (hon 4 (by kernel_rfl)) rfl
            replace ha := Aside0.mk ha
            have HBr := Aside0.mk Q_HBr
            refine value_ (w1 := w') (v := .slice A8 (evsM l0).length c8) (wanted_on rfl rfl rfl (e48.trans (by first | rfl | (simp [*]; done)))) rfl ?_ ?_
            · go_simp
              (try simp only [i64_w])
              try rfl
            refine hK.out _ _ ⟨v52_, A56_, c56_, v57_, m12_, (by rw [ha.out]; exact putSel_upk 14 hb_ rfl rfl rfl), Q_HBr, Q_RO52, Q_RW56, Q_RO57, Q_X12_⟩
          refine steps_cons ?_ ?_
          · rintro b a w' ⟨v52_, A56_, c56_, v57_, m12_, ha, Q_HBr, Q_RO52, Q_RW56, Q_RO57, Q_X12_⟩ hb_ hon hoff
            refine ⟨_, rfl, fun K hK => ?_⟩
            have e57 : a.tmps[57]? = some (v57_) := by rw [ha]; exact putSel_on (e := (13, 57, v57_)) 13 rfl rfl (hon 13 (by kernel_rfl)) rfl
            have e58 : a.tmps[58]? = some (.slice A8 (evsM l0).length c8) := by rw [ha]; exact putSel_on (e := (14, 58, .slice A8 (evsM l0).length c8)) 14 rfl rfl (hon 14 (by kernel_rfl)) rfl
            have e48 : a.tmps[48]? = some (.bool true) := by rw [ha]; exact putSel_on (e := (4, 48, .bool true)) 4 rfl rfl (hon 4 (by kernel_rfl)) rfl
            replace ha := Aside0.mk ha
            have HBr := Aside0.mk Q_HBr
            have RO57 := Aside0.mk (Q_RO57 (hon 13 (by kernel_rfl)))
            refine goes_ Tryd.func11 (by kernel_rfl) rfl #[v57_, .slice A8 (evsM l0).length c8] (wanted_on rfl rfl rfl (e48.trans (by first | rfl | (simp [*]; done)))) rfl rfl (by first | (simp only [List.map_toArray, List.map_cons, List.map_nil, Act.eval, Array.getD_eq_getD_getElem?, Option.getD_some, e57, e58, e48]; done) | (simp only [List.map_toArray, List.map_cons, List.map_nil, Act.eval, Array.getD_eq_getD_getElem?, Option.getD_some, e57, e58, e48]; rfl)) ?_
            refine (alike_y (Sl_R RO57.out) (Sl_below S8.out HBr.out) T1.out).mono ?_
            rintro e w1 ⟨rfl, hb1⟩
            refine ⟨_, rfl, ?_⟩
            refine hK.out _ _ ⟨v52_, A56_, c56_, v57_, m12_, (by rw [ha.out]; exact putSel_upk 15 hb_ rfl rfl rfl), below_step HBr.out hb1, fun _ h1_ => absurd ((hon 13 (by kernel_rfl)).symm.trans h1_) (by decide), fun _ h1_ => absurd ((hon 13 (by kernel_rfl)).symm.trans h1_) (by decide), fun _ => Kd.R_below RO57.out hb1, Q_X12_⟩
          refine steps_cons ?_ ?_
          · rintro b a w' ⟨v52_, A56_, c56_, v57_, m12_, ha, Q_HBr, Q_RO52, Q_RW56, Q_RO57, Q_X12_⟩ hb_ hon hoff
            refine ⟨_, rfl, fun K hK => ?_⟩
            have e48 : a.tmps[48]? = some (.bool true) := by rw [ha]; exact putSel_on (e := (4, 48, .bool true)) 4 rfl rfl (hon 4 (by kernel_rfl)) rfl
            have e59 : a.tmps[59]? = some (.bool true) := by rw [ha]; exact putSel_on (e := (15, 59, .bool true)) 15 rfl rfl (hon 15 (by kernel_rfl)) rfl
            replace ha := Aside0.mk ha
            have HBr := Aside0.mk Q_HBr
            have RO57 := Aside0.mk (Q_RO57 (hon 13 (by kernel_rfl)))
            refine value_ (w1 := w') (v := .bool true) ?cA ?cB ?_ ?_
            case cA => rfl
            case cB => rfl
            · go_simp
              (try simp only [i64_w])
              try rfl
            refine hK.out _ _ ⟨v52_, A56_, c56_, v57_, m12_, (by rw [ha.out]; exact putSel_upk 16 hb_ rfl rfl rfl), Q_HBr, fun _ h1_ => absurd ((hon 13 (by kernel_rfl)).symm.trans h1_) (by decide), fun _ h1_ => absurd ((hon 13 (by kernel_rfl)).symm.trans h1_) (by decide), Q_RO57, Q_X12_⟩
          refine steps_cons ?_ ?_
          · rintro b a w' ⟨v52_, A56_, c56_, v57_, m12_, ha, Q_HBr, Q_RO52, Q_RW56, Q_RO57, Q_X12_⟩ hb_ hon hoff
            refine ⟨_, rfl, fun K hK => ?_⟩
            have e60 : a.tmps[60]? = some (.bool true) := by rw [ha]; exact putSel_on (e := (16, 60, .bool true)) 16 rfl rfl (hon 16 (by kernel_rfl)) rfl
            replace ha := Aside0.mk ha
            have HBr := Aside0.mk Q_HBr
            have RO57 := Aside0.mk (Q_RO57 (hon 13 (by kernel_rfl)))
            refine value_ (w1 := w') (v := .bool true) ?cA ?cB ?_ ?_
            case cA => rfl
            case cB => rfl
            · go_simp
              (try simp only [i64_w])
              try rfl
            refine hK.out _ _ ⟨v52_, A56_, c56_, v57_, m12_, (by rw [ha.out]; exact putSel_upk 17 hb_ rfl rfl rfl), Q_HBr, fun _ h1_ => absurd ((hon 13 (by kernel_rfl)).symm.trans h1_) (by decide), fun _ h1_ => absurd ((hon 13 (by kernel_rfl)).symm.trans h1_) (by decide), Q_RO57, Q_X12_⟩
          exact steps_nil
        rintro b a w' hall ⟨v52_, A56_, c56_, v57_, m12_, ha, Q_HBr, Q_RO52, Q_RW56, Q_RO57, Q_X12_⟩
        clear HBr
        have hb0_ := hall 0 (by kernel_rfl)
        have hb1_ := hall 1 (by kernel_rfl)
        have hb2_ := hall 2 (by kernel_rfl)
        have hb3_ := hall 3 (by kernel_rfl)
        have hb4_ := hall 4 (by kernel_rfl)
        have hb5_ := hall 5 (by kernel_rfl)
        have hb6_ := hall 6 (by kernel_rfl)
        have hb7_ := hall 7 (by kernel_rfl)
        have hb8_ := hall 8 (by kernel_rfl)
        have hb9_ := hall 9 (by kernel_rfl)
        have hb10_ := hall 10 (by kernel_rfl)
        have hb11_ := hall 11 (by kernel_rfl)
        have hb12_ := hall 12 (by kernel_rfl)
        have hb13_ := hall 13 (by kernel_rfl)
        have hb14_ := hall 14 (by kernel_rfl)
        have hb15_ := hall 15 (by kernel_rfl)
        have hb16_ := hall 16 (by kernel_rfl)
        have hb17_ := hall 17 (by kernel_rfl)
        subst ha
        obtain rfl := Q_X12_ hb12_
        simp only [putSel, hb0_, hb1_, hb2_, hb3_, hb4_, hb5_, hb6_, hb7_, hb8_, hb9_, hb10_, hb11_, hb12_, hb13_, hb14_, hb15_, hb16_, hb17_, if_true, Act.put, List.setIfInBounds_toArray, List.set_cons_zero, List.set_cons_succ]
        have HBr := Aside0.mk Q_HBr
        clear Q_HBr
        clear Q_RO52
        clear Q_RW56
        have RO57 := Aside0.mk (Q_RO57 hb13_)
        clear Q_RO57
        clear hall hb0_ hb1_ hb2_ hb3_ hb4_ hb5_ hb6_ hb7_ hb8_ hb9_ hb10_ hb11_ hb12_ hb13_ hb14_ hb15_ hb16_ hb17_
        go_wp2
        go_ret
        exact ⟨rfl, below_step HB2.out HBr.out⟩
end Go.Proofs.YtpejloegidailaaDoor.An
