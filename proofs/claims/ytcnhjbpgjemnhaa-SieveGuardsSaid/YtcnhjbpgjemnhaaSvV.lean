/- For awake: what the document fixes by number. -/
import Derived.Test.YtcnhjbpgjemnhaaSvC
import Derived.Test.YtcnhjbpgjemnhaaWInvWords
namespace Go.Proofs.Ytcnhjbpgjemnhaa.Sv
open Go.RowKit Go.Proofs.YtcnhjbpgjemnhaaW.PrintWords Go.Proofs.YtcnhjbpgjemnhaaW.PrintLast Go.Proofs.YtcnhjbpgjemnhaaW.PrintMore Go.Proofs.Ytcnhjbpgjemnhaa.X
set_option linter.unusedVariables false
set_option linter.unusedSimpArgs false
attribute [local go_sem high] eqA39 eqA37
attribute [local go_sem ↓] Go.wp_at_zero Go.wp_at_succ

def nt (s b d : Int) : S39 := ⟨⟨s, 1, 0, 0, false⟩, b, d⟩
theorem note_c (s b d : Int) (w : World) : Calls Try.prog 18 #[.int .i64 s, .int .i64 b, .int .i64 d] w fun e w' => e = .returned (.agg #[.int .i64 s, .int .i64 1, .int .i64 0, .int .i64 0, .bool false, .int .i64 b, .int .i64 d]) ∧ Below w.heap.size w w' := by
  have hu39 := Try.underlying39
  have hu37 := Try.underlying37
  go_enter Try.func18, Try.ntmps18
  go_wp2
  refine bodyPost_ret (v := .agg #[.int .i64 s, .int .i64 1, .int .i64 0, .int .i64 0, .bool false, .int .i64 b, .int .i64 d]) (by simp [results, Try.results18, go_sem]) rfl ⟨rfl, ?_⟩
  exact below_alloc (Below.refl _ _) _
def mayB (now : Int) (l : List S41) : Bool := l.all fun s => !s.f0 || s.f1 == now
set_option maxHeartbeats 1000000 in
theorem may_c (now : Int) (A : Option Addr) (c : Nat) (l : List S41) (w : World) (hk : Kd.C k41 w A l.length l) :
    Calls Try.prog 19 #[.int .i64 now, .slice A l.length c] w fun e w' => e = .returned (.bool (mayB now l)) ∧ Below w.heap.size w w' := by
  have hu41 := Try.underlying41
  have hlen := Kd.C_max hk
  have HK := Aside0.mk hk
  clear hk
  go_enter Try.func19, Try.ntmps19
  go_wp2
  go_loopw [9] (fun i wr => ∃ k : Nat, k ≤ l.length ∧ i = .int .i64 k ∧ Below w.heap.size w wr ∧ mayB now (l.take k) = true) (fun i _ => l.length - (intOf i).toNat)
  case atStart => exact ⟨0, Nat.zero_le _, rfl, Below.refl _ _, rfl⟩
  case round =>
    obtain ⟨k, hkl, rfl, hb, hs⟩ := hrel
    have HS := Aside0.mk hs
    clear hs
    have HB := Aside0.mk hb
    clear hb
    by_cases hlt : k < l.length
    · obtain ⟨ad, eA, q0, q1, q2⟩ := at_T41 HK.out (k : Int) (by omega) (by omega)
      replace q0 := pw_cell_below HB.out q0
      replace q1 := pw_cell_below HB.out q1
      replace q2 := pw_cell_below HB.out q2
      simp only [Int.toNat_natCast] at q0 q1 q2
      cases eA
      have hr : rd_T41 l (k : Int) = l.getD k z41 := by simp [rd_T41]
      have h1 := all_at l (fun s => !s.f0 || s.f1 == now) z41 k hlt
      have h2 := all_snoc l (fun s => !s.f0 || s.f1 == now) z41 k hlt
      rw [← hr] at h1 h2
      have H1 := Aside0.mk h1
      clear h1
      have H2 := Aside0.mk h2
      clear h2
      have HR := Aside0.mk hr
      clear hr
      cases t0 : (rd_T41 l (k : Int)).f0
      · go_wp2
        go_roundw
        case rel => exact ⟨k + 1, by omega, by go_num, below_alloc HB.out _, by rw [mayB, H2.out, show (l.take k).all _ = true from HS.out, t0]; rfl⟩
        case measure => simp [intOf]; omega
      · by_cases t1 : (rd_T41 l (k : Int)).f1 = now
        · have t2 : ((rd_T41 l (k : Int)).f1 != now) = false := by simp [t1]
          have T1 := Aside0.mk t1
          clear t1
          go_wp2
          go_roundw
          case rel => exact ⟨k + 1, by omega, by go_num, below_alloc HB.out _, by rw [mayB, H2.out, show (l.take k).all _ = true from HS.out, t0, T1.out]; simp⟩
          case measure => simp [intOf]; omega
        · have t2 : ((rd_T41 l (k : Int)).f1 != now) = true := by simp [t1]
          have T1 := Aside0.mk t1
          clear t1
          go_wp2
          go_ret
          exact ⟨by rw [mayB, H1.out (by rw [t0]; simpa using T1.out)]; rfl, below_alloc HB.out _⟩
    · go_wp2
      go_ret
      have hk' : k = l.length := by omega
      subst hk'
      have hs := HS.out
      rw [List.take_length] at hs
      exact ⟨by rw [hs]; rfl, HB.out⟩
theorem ref_c (x : S37) (w : World) : Calls Try.prog 28 #[v37 x] w fun e w' => e = .returned (v37 ⟨x.f0, x.f1, 0, 0, false⟩) ∧ Below w.heap.size w w' := by
  have hu37 := Try.underlying37
  unfold v37
  go_enter Try.func28, Try.ntmps28
  go_wp2
  refine bodyPost_ret (v := v37 ⟨x.f0, x.f1, 0, 0, false⟩) (by simp [results, Try.results28, go_sem]) rfl ⟨rfl, ?_⟩
  exact below_alloc (below_alloc (Below.refl _ _) _) _
theorem nil_c (x : S37) (w : World) : Calls Try.prog 27 #[v37 x] w fun e w' => e = .returned (.bool (x.f0 == 0)) ∧ Below w.heap.size w w' := by
  have hu37 := Try.underlying37
  unfold v37
  go_enter Try.func27, Try.ntmps27
  go_wp2
  go_ret
  exact ⟨rfl, below_alloc (Below.refl _ _) _⟩
set_option maxHeartbeats 4000000 in
theorem gg_c (s : Int) (hs : s = 0 ∨ s = 1) (w : World) : Calls Try.prog 26 #[v37 ⟨s, s, 0, 0, false⟩] w fun e w' => e = .returned (.bool true) ∧ Below w.heap.size w w' := by
  have hu37 := Try.underlying37
  unfold v37
  rcases hs with rfl | rfl
  all_goals
    go_enter Try.func26, Try.ntmps26
    go_wp2
    go_ret
    exact ⟨rfl, by repeat (first | exact Below.refl _ _ | apply below_alloc)⟩
def good_yes.T1 : Bool × List (List Nat × List Nat) := (true, [([], []), ([0], [0]), ([1], [1]), ([2, 2], [2]), ([3], [3]), ([4, 3], [3, 4]), ([5, 3, 3], [3, 5]), ([6, 3], [3, 6]), ([3, 7], [3, 7]), ([8, 6], [8]), ([9], [9]), ([10, 9], [9, 10]), ([9], [9]), ([12, 9], [9, 12]), ([13, 9, 9], [9, 13]), ([11, 14, 9], [9, 11, 14]), ([9, 15], [9, 15]), ([16, 14], [16]), ([17], [17]), ([18, 17], [17, 18]), ([19, 17], [17, 19]), ([17, 20], [17, 20]), ([21, 17], [21]), ([22], [22]), ([23, 22], [22, 23]), ([22], [22]), ([25, 22], [22, 25]), ([24, 26, 22], [22, 24, 26]), ([22, 27], [22, 27]), ([28, 22], [28]), ([29], [29]), ([30, 29], [29, 30]), ([31, 29], [29, 31]), ([29, 32], [29, 32]), ([33, 29, 0, 1, 2, 3, 4, 5, 6, 7, 8, 9, 10, 11, 12, 13, 14, 15, 16, 17, 18, 19, 20, 21, 22, 23, 24, 25, 26, 27, 28, 29, 30, 31, 32, 33], [33])])
def good_yes.B1 : List Nat := [0, 1, 3, 7, 15, 31, 63, 127, 255, 511, 1023, 2047, 1023, 5119, 13311, 32767, 65535, 131071, 262143, 524287, 1048575, 2097151, 4194303, 8388607, 16777215, 8388607, 41943039, 134217727, 268435455, 536870911, 1073741823, 2147483647, 4294967295, 8589934591, 17179869183]
theorem good_yes.tab1 : rtab .any (opsOf Try.f20 1) = good_yes.T1 := by kernel_rfl
theorem good_yes.bits1 : waitsOk good_yes.T1.2 good_yes.B1 = true := by kernel_rfl
set_option maxHeartbeats 4000000 in
theorem good_yes (w : World) : Calls Try.prog 20 #[v39 (nt 1 0 3)] w fun e w' => e = .returned (.bool true) ∧ Below w.heap.size w w' := by
  have hu39 := Try.underlying39
  have hu37 := Try.underlying37
  unfold v39
  obtain ⟨wr, hwr⟩ : ∃ wr, wr = w.alloc (o39 (nt 1 0 3)) := ⟨_, rfl⟩
  have hb0 : Below w.heap.size w wr := by rw [hwr]; exact below_alloc (Below.refl _ _) _
  have BX := Aside0.mk (show wr.heap[w.heap.size]? = some (o39 (nt 1 0 3)) by rw [hwr]; exact blk_new w _)
  have HWR := Aside0.mk hwr
  clear hwr
  go_enter Try.func20, Try.ntmps20
  go_wp2_with fail
  rw [show w.alloc _ = wr from HWR.out.symm]
  refine start_ (n := 35) (S := fun w' => True) (ds := []) #[false, false, false, false, false, false, false, false, false, false, false, false, false, false, false, false, false, false, false, false, false, false, false, false, false, false, false, false, false, false, false, false, false, false, false] (by kernel_rfl) rfl rfl trivial (fun hHeld => ?_)
  refine with_tabW good_yes.tab1 good_yes.bits1 (fun HT_ HW_ => ?_)
  have HBr := Aside0.mk (below_drew1 (Below.refl wr.heap.size wr))
  refine inv_at [0, 1, 2, 3, 4, 5, 6, 7, 8, 9, 10, 11, 12, 13, 14, 15, 16, 17, 18, 19, 20, 21, 22, 23, 24, 25, 26, 27, 28, 29, 30, 31, 32, 33, 34] (fun a0_ b a w' => a = putSel a0_ b [(0, 3, .pointer (some ⟨w.heap.size, 0, none⟩)), (1, 4, .agg #[.int .i64 1, .int .i64 1, .int .i64 0, .int .i64 0, .bool false]), (2, 5, .bool true), (3, 6, .bool true), (4, 7, .pointer (some ⟨w.heap.size, 0, none⟩)), (5, 8, .agg #[.int .i64 1, .int .i64 1, .int .i64 0, .int .i64 0, .bool false]), (6, 9, .bool false), (7, 10, .bool true), (8, 11, .bool true), (9, 12, .bool true), (10, 13, .pointer (some ⟨w.heap.size, 0, none⟩)), (11, 14, .agg #[.int .i64 1, .int .i64 1, .int .i64 0, .int .i64 0, .bool false]), (12, 15, .pointer (some ⟨w.heap.size, 0, none⟩)), (13, 16, .agg #[.int .i64 1, .int .i64 1, .int .i64 0, .int .i64 0, .bool false]), (14, 17, .agg #[.int .i64 1, .int .i64 1, .int .i64 0, .int .i64 0, .bool false]), (15, 18, .bool true), (16, 19, .bool true), (17, 20, .bool true), (18, 21, .pointer (some ⟨w.heap.size, 5, none⟩)), (19, 22, .int .i64 0), (20, 23, .bool true), (21, 24, .bool true), (22, 25, .bool true), (23, 26, .pointer (some ⟨w.heap.size, 5, none⟩)), (24, 27, .int .i64 0), (25, 28, .pointer (some ⟨w.heap.size, 6, none⟩)), (26, 29, .int .i64 3), (27, 30, .bool true), (28, 31, .bool true), (29, 32, .bool true), (30, 33, .pointer (some ⟨w.heap.size, 6, none⟩)), (31, 34, .int .i64 3), (32, 35, .bool true), (33, 36, .bool true), (34, 2, .bool true)] ∧ (Below wr.heap.size wr w')) HT_.out HW_.out (by kernel_rfl) (by kernel_rfl) ?_ ?_ ?_
  · exact ⟨by simp only [putSel, Bool.false_eq_true, if_false], HBr.out⟩
  · skip
    clear HBr
    refine steps_cons ?_ ?_
    · rintro b a w' ⟨ha, Q_HBr⟩ hb_ hon hoff
      refine ⟨_, rfl, fun K hK => ?_⟩
      have e1 : a.tmps[1]? = some (.pointer (some ⟨w.heap.size, 0, none⟩)) := by rw [ha]; exact (putSel_off rfl).trans rfl
      replace ha := Aside0.mk ha
      have HBr := Aside0.mk Q_HBr
      refine value_ (w1 := w') (v := .pointer (some ⟨w.heap.size, 0, none⟩)) (by rfl) rfl ?_ ?_
      · go_simp
        (try simp only [i64_w])
        try rfl
      refine hK.out _ _ ⟨(by rw [ha.out]; exact putSel_upk 0 hb_ rfl rfl rfl), Q_HBr⟩
    refine steps_cons ?_ ?_
    · rintro b a w' ⟨ha, Q_HBr⟩ hb_ hon hoff
      refine ⟨_, rfl, fun K hK => ?_⟩
      have e3 : a.tmps[3]? = some (.pointer (some ⟨w.heap.size, 0, none⟩)) := by rw [ha]; exact putSel_on (e := (0, 3, .pointer (some ⟨w.heap.size, 0, none⟩))) 0 rfl rfl (hon 0 (by kernel_rfl)) rfl
      replace ha := Aside0.mk ha
      have HBr := Aside0.mk Q_HBr
      have z0_ : w'.cell? ⟨w.heap.size, 0, none⟩ = some (.int .i64 1) := (blk_cell (blk_below HBr.out BX.out) 0).trans rfl
      have z1_ : w'.cell? ⟨w.heap.size, 1, none⟩ = some (.int .i64 1) := (blk_cell (blk_below HBr.out BX.out) 1).trans rfl
      have z2_ : w'.cell? ⟨w.heap.size, 2, none⟩ = some (.int .i64 0) := (blk_cell (blk_below HBr.out BX.out) 2).trans rfl
      have z3_ : w'.cell? ⟨w.heap.size, 3, none⟩ = some (.int .i64 0) := (blk_cell (blk_below HBr.out BX.out) 3).trans rfl
      have z4_ : w'.cell? ⟨w.heap.size, 4, none⟩ = some (.bool false) := (blk_cell (blk_below HBr.out BX.out) 4).trans rfl
      refine value_ (w1 := w') (v := .agg #[.int .i64 1, .int .i64 1, .int .i64 0, .int .i64 0, .bool false]) (by rfl) rfl ?_ ?_
      · go_simp
        (try simp only [i64_w])
        try rfl
      refine hK.out _ _ ⟨(by rw [ha.out]; exact putSel_upk 1 hb_ rfl rfl rfl), Q_HBr⟩
    refine steps_cons ?_ ?_
    · rintro b a w' ⟨ha, Q_HBr⟩ hb_ hon hoff
      refine ⟨_, rfl, fun K hK => ?_⟩
      have e4 : a.tmps[4]? = some (.agg #[.int .i64 1, .int .i64 1, .int .i64 0, .int .i64 0, .bool false]) := by rw [ha]; exact putSel_on (e := (1, 4, .agg #[.int .i64 1, .int .i64 1, .int .i64 0, .int .i64 0, .bool false])) 1 rfl rfl (hon 1 (by kernel_rfl)) rfl
      replace ha := Aside0.mk ha
      have HBr := Aside0.mk Q_HBr
      refine goes_ Try.func26 (by kernel_rfl) rfl #[.agg #[.int .i64 1, .int .i64 1, .int .i64 0, .int .i64 0, .bool false]] (by rfl) rfl rfl (by first | (simp only [List.map_toArray, List.map_cons, List.map_nil, Act.eval, Array.getD_eq_getD_getElem?, Option.getD_some, e4]; done) | (simp only [List.map_toArray, List.map_cons, List.map_nil, Act.eval, Array.getD_eq_getD_getElem?, Option.getD_some, e4]; rfl)) ?_
      refine (gg_c 1 (.inr rfl) _).mono ?_
      rintro e w1 ⟨rfl, hb1⟩
      refine ⟨_, rfl, ?_⟩
      refine hK.out _ _ ⟨(by rw [ha.out]; exact putSel_upk 2 hb_ rfl rfl rfl), below_step HBr.out hb1⟩
    refine steps_cons ?_ ?_
    · rintro b a w' ⟨ha, Q_HBr⟩ hb_ hon hoff
      refine ⟨_, rfl, fun K hK => ?_⟩
      have e5 : a.tmps[5]? = some (.bool true) := by rw [ha]; exact putSel_on (e := (2, 5, .bool true)) 2 rfl rfl (hon 2 (by kernel_rfl)) rfl
      replace ha := Aside0.mk ha
      have HBr := Aside0.mk Q_HBr
      refine value_ (w1 := w') (v := .bool true) (by rfl) rfl ?_ ?_
      · go_simp
        (try simp only [i64_w])
        try rfl
      refine hK.out _ _ ⟨(by rw [ha.out]; exact putSel_upk 3 hb_ rfl rfl rfl), Q_HBr⟩
    refine steps_cons ?_ ?_
    · rintro b a w' ⟨ha, Q_HBr⟩ hb_ hon hoff
      refine ⟨_, rfl, fun K hK => ?_⟩
      have e1 : a.tmps[1]? = some (.pointer (some ⟨w.heap.size, 0, none⟩)) := by rw [ha]; exact (putSel_off rfl).trans rfl
      have e6 : a.tmps[6]? = some (.bool true) := by rw [ha]; exact putSel_on (e := (3, 6, .bool true)) 3 rfl rfl (hon 3 (by kernel_rfl)) rfl
      replace ha := Aside0.mk ha
      have HBr := Aside0.mk Q_HBr
      refine value_ (w1 := w') (v := .pointer (some ⟨w.heap.size, 0, none⟩)) (wanted_on rfl rfl rfl (e6.trans (by first | rfl | (simp [*]; done)))) rfl ?_ ?_
      · go_simp
        (try simp only [i64_w])
        try rfl
      refine hK.out _ _ ⟨(by rw [ha.out]; exact putSel_upk 4 hb_ rfl rfl rfl), Q_HBr⟩
    refine steps_cons ?_ ?_
    · rintro b a w' ⟨ha, Q_HBr⟩ hb_ hon hoff
      refine ⟨_, rfl, fun K hK => ?_⟩
      have e7 : a.tmps[7]? = some (.pointer (some ⟨w.heap.size, 0, none⟩)) := by rw [ha]; exact putSel_on (e := (4, 7, .pointer (some ⟨w.heap.size, 0, none⟩))) 4 rfl rfl (hon 4 (by kernel_rfl)) rfl
      have e6 : a.tmps[6]? = some (.bool true) := by rw [ha]; exact putSel_on (e := (3, 6, .bool true)) 3 rfl rfl (hon 3 (by kernel_rfl)) rfl
      replace ha := Aside0.mk ha
      have HBr := Aside0.mk Q_HBr
      have z0_ : w'.cell? ⟨w.heap.size, 0, none⟩ = some (.int .i64 1) := (blk_cell (blk_below HBr.out BX.out) 0).trans rfl
      have z1_ : w'.cell? ⟨w.heap.size, 1, none⟩ = some (.int .i64 1) := (blk_cell (blk_below HBr.out BX.out) 1).trans rfl
      have z2_ : w'.cell? ⟨w.heap.size, 2, none⟩ = some (.int .i64 0) := (blk_cell (blk_below HBr.out BX.out) 2).trans rfl
      have z3_ : w'.cell? ⟨w.heap.size, 3, none⟩ = some (.int .i64 0) := (blk_cell (blk_below HBr.out BX.out) 3).trans rfl
      have z4_ : w'.cell? ⟨w.heap.size, 4, none⟩ = some (.bool false) := (blk_cell (blk_below HBr.out BX.out) 4).trans rfl
      refine value_ (w1 := w') (v := .agg #[.int .i64 1, .int .i64 1, .int .i64 0, .int .i64 0, .bool false]) (wanted_on rfl rfl rfl (e6.trans (by first | rfl | (simp [*]; done)))) rfl ?_ ?_
      · go_simp
        (try simp only [i64_w])
        try rfl
      refine hK.out _ _ ⟨(by rw [ha.out]; exact putSel_upk 5 hb_ rfl rfl rfl), Q_HBr⟩
    refine steps_cons ?_ ?_
    · rintro b a w' ⟨ha, Q_HBr⟩ hb_ hon hoff
      refine ⟨_, rfl, fun K hK => ?_⟩
      have e8 : a.tmps[8]? = some (.agg #[.int .i64 1, .int .i64 1, .int .i64 0, .int .i64 0, .bool false]) := by rw [ha]; exact putSel_on (e := (5, 8, .agg #[.int .i64 1, .int .i64 1, .int .i64 0, .int .i64 0, .bool false])) 5 rfl rfl (hon 5 (by kernel_rfl)) rfl
      have e6 : a.tmps[6]? = some (.bool true) := by rw [ha]; exact putSel_on (e := (3, 6, .bool true)) 3 rfl rfl (hon 3 (by kernel_rfl)) rfl
      replace ha := Aside0.mk ha
      have HBr := Aside0.mk Q_HBr
      refine goes_ Try.func27 (by kernel_rfl) rfl #[.agg #[.int .i64 1, .int .i64 1, .int .i64 0, .int .i64 0, .bool false]] (wanted_on rfl rfl rfl (e6.trans (by first | rfl | (simp [*]; done)))) rfl rfl (by first | (simp only [List.map_toArray, List.map_cons, List.map_nil, Act.eval, Array.getD_eq_getD_getElem?, Option.getD_some, e8, e6]; done) | (simp only [List.map_toArray, List.map_cons, List.map_nil, Act.eval, Array.getD_eq_getD_getElem?, Option.getD_some, e8, e6]; rfl)) ?_
      refine (nil_c ⟨1, 1, 0, 0, false⟩ _).mono ?_
      rintro e w1 ⟨rfl, hb1⟩
      refine ⟨_, rfl, ?_⟩
      refine hK.out _ _ ⟨(by rw [ha.out]; exact putSel_upk 6 hb_ rfl rfl rfl), below_step HBr.out hb1⟩
    refine steps_cons ?_ ?_
    · rintro b a w' ⟨ha, Q_HBr⟩ hb_ hon hoff
      refine ⟨_, rfl, fun K hK => ?_⟩
      have e9 : a.tmps[9]? = some (.bool false) := by rw [ha]; exact putSel_on (e := (6, 9, .bool false)) 6 rfl rfl (hon 6 (by kernel_rfl)) rfl
      have e6 : a.tmps[6]? = some (.bool true) := by rw [ha]; exact putSel_on (e := (3, 6, .bool true)) 3 rfl rfl (hon 3 (by kernel_rfl)) rfl
      replace ha := Aside0.mk ha
      have HBr := Aside0.mk Q_HBr
      refine value_ (w1 := w') (v := .bool true) (wanted_on rfl rfl rfl (e6.trans (by first | rfl | (simp [*]; done)))) rfl ?_ ?_
      · go_simp
        (try simp only [i64_w])
        try rfl
      refine hK.out _ _ ⟨(by rw [ha.out]; exact putSel_upk 7 hb_ rfl rfl rfl), Q_HBr⟩
    refine steps_cons ?_ ?_
    · rintro b a w' ⟨ha, Q_HBr⟩ hb_ hon hoff
      refine ⟨_, rfl, fun K hK => ?_⟩
      have e6 : a.tmps[6]? = some (.bool true) := by rw [ha]; exact putSel_on (e := (3, 6, .bool true)) 3 rfl rfl (hon 3 (by kernel_rfl)) rfl
      have e10 : a.tmps[10]? = some (.bool true) := by rw [ha]; exact putSel_on (e := (7, 10, .bool true)) 7 rfl rfl (hon 7 (by kernel_rfl)) rfl
      replace ha := Aside0.mk ha
      have HBr := Aside0.mk Q_HBr
      refine value_ (w1 := w') (v := .bool true) (by rfl) rfl ?_ ?_
      · go_simp
        (try simp only [i64_w])
        try rfl
      refine hK.out _ _ ⟨(by rw [ha.out]; exact putSel_upk 8 hb_ rfl rfl rfl), Q_HBr⟩
    refine steps_cons ?_ ?_
    · rintro b a w' ⟨ha, Q_HBr⟩ hb_ hon hoff
      refine ⟨_, rfl, fun K hK => ?_⟩
      have e11 : a.tmps[11]? = some (.bool true) := by rw [ha]; exact putSel_on (e := (8, 11, .bool true)) 8 rfl rfl (hon 8 (by kernel_rfl)) rfl
      replace ha := Aside0.mk ha
      have HBr := Aside0.mk Q_HBr
      refine value_ (w1 := w') (v := .bool true) (by rfl) rfl ?_ ?_
      · go_simp
        (try simp only [i64_w])
        try rfl
      refine hK.out _ _ ⟨(by rw [ha.out]; exact putSel_upk 9 hb_ rfl rfl rfl), Q_HBr⟩
    refine steps_cons ?_ ?_
    · rintro b a w' ⟨ha, Q_HBr⟩ hb_ hon hoff
      refine ⟨_, rfl, fun K hK => ?_⟩
      have e1 : a.tmps[1]? = some (.pointer (some ⟨w.heap.size, 0, none⟩)) := by rw [ha]; exact (putSel_off rfl).trans rfl
      have e12 : a.tmps[12]? = some (.bool true) := by rw [ha]; exact putSel_on (e := (9, 12, .bool true)) 9 rfl rfl (hon 9 (by kernel_rfl)) rfl
      replace ha := Aside0.mk ha
      have HBr := Aside0.mk Q_HBr
      refine value_ (w1 := w') (v := .pointer (some ⟨w.heap.size, 0, none⟩)) (wanted_on rfl rfl rfl (e12.trans (by first | rfl | (simp [*]; done)))) rfl ?_ ?_
      · go_simp
        (try simp only [i64_w])
        try rfl
      refine hK.out _ _ ⟨(by rw [ha.out]; exact putSel_upk 10 hb_ rfl rfl rfl), Q_HBr⟩
    refine steps_cons ?_ ?_
    · rintro b a w' ⟨ha, Q_HBr⟩ hb_ hon hoff
      refine ⟨_, rfl, fun K hK => ?_⟩
      have e13 : a.tmps[13]? = some (.pointer (some ⟨w.heap.size, 0, none⟩)) := by rw [ha]; exact putSel_on (e := (10, 13, .pointer (some ⟨w.heap.size, 0, none⟩))) 10 rfl rfl (hon 10 (by kernel_rfl)) rfl
      have e12 : a.tmps[12]? = some (.bool true) := by rw [ha]; exact putSel_on (e := (9, 12, .bool true)) 9 rfl rfl (hon 9 (by kernel_rfl)) rfl
      replace ha := Aside0.mk ha
      have HBr := Aside0.mk Q_HBr
      have z0_ : w'.cell? ⟨w.heap.size, 0, none⟩ = some (.int .i64 1) := (blk_cell (blk_below HBr.out BX.out) 0).trans rfl
      have z1_ : w'.cell? ⟨w.heap.size, 1, none⟩ = some (.int .i64 1) := (blk_cell (blk_below HBr.out BX.out) 1).trans rfl
      have z2_ : w'.cell? ⟨w.heap.size, 2, none⟩ = some (.int .i64 0) := (blk_cell (blk_below HBr.out BX.out) 2).trans rfl
      have z3_ : w'.cell? ⟨w.heap.size, 3, none⟩ = some (.int .i64 0) := (blk_cell (blk_below HBr.out BX.out) 3).trans rfl
      have z4_ : w'.cell? ⟨w.heap.size, 4, none⟩ = some (.bool false) := (blk_cell (blk_below HBr.out BX.out) 4).trans rfl
      refine value_ (w1 := w') (v := .agg #[.int .i64 1, .int .i64 1, .int .i64 0, .int .i64 0, .bool false]) (wanted_on rfl rfl rfl (e12.trans (by first | rfl | (simp [*]; done)))) rfl ?_ ?_
      · go_simp
        (try simp only [i64_w])
        try rfl
      refine hK.out _ _ ⟨(by rw [ha.out]; exact putSel_upk 11 hb_ rfl rfl rfl), Q_HBr⟩
    refine steps_cons ?_ ?_
    · rintro b a w' ⟨ha, Q_HBr⟩ hb_ hon hoff
      refine ⟨_, rfl, fun K hK => ?_⟩
      have e1 : a.tmps[1]? = some (.pointer (some ⟨w.heap.size, 0, none⟩)) := by rw [ha]; exact (putSel_off rfl).trans rfl
      have e12 : a.tmps[12]? = some (.bool true) := by rw [ha]; exact putSel_on (e := (9, 12, .bool true)) 9 rfl rfl (hon 9 (by kernel_rfl)) rfl
      replace ha := Aside0.mk ha
      have HBr := Aside0.mk Q_HBr
      refine value_ (w1 := w') (v := .pointer (some ⟨w.heap.size, 0, none⟩)) (wanted_on rfl rfl rfl (e12.trans (by first | rfl | (simp [*]; done)))) rfl ?_ ?_
      · go_simp
        (try simp only [i64_w])
        try rfl
      refine hK.out _ _ ⟨(by rw [ha.out]; exact putSel_upk 12 hb_ rfl rfl rfl), Q_HBr⟩
    refine steps_cons ?_ ?_
    · rintro b a w' ⟨ha, Q_HBr⟩ hb_ hon hoff
      refine ⟨_, rfl, fun K hK => ?_⟩
      have e15 : a.tmps[15]? = some (.pointer (some ⟨w.heap.size, 0, none⟩)) := by rw [ha]; exact putSel_on (e := (12, 15, .pointer (some ⟨w.heap.size, 0, none⟩))) 12 rfl rfl (hon 12 (by kernel_rfl)) rfl
      have e12 : a.tmps[12]? = some (.bool true) := by rw [ha]; exact putSel_on (e := (9, 12, .bool true)) 9 rfl rfl (hon 9 (by kernel_rfl)) rfl
      replace ha := Aside0.mk ha
      have HBr := Aside0.mk Q_HBr
      have z0_ : w'.cell? ⟨w.heap.size, 0, none⟩ = some (.int .i64 1) := (blk_cell (blk_below HBr.out BX.out) 0).trans rfl
      have z1_ : w'.cell? ⟨w.heap.size, 1, none⟩ = some (.int .i64 1) := (blk_cell (blk_below HBr.out BX.out) 1).trans rfl
      have z2_ : w'.cell? ⟨w.heap.size, 2, none⟩ = some (.int .i64 0) := (blk_cell (blk_below HBr.out BX.out) 2).trans rfl
      have z3_ : w'.cell? ⟨w.heap.size, 3, none⟩ = some (.int .i64 0) := (blk_cell (blk_below HBr.out BX.out) 3).trans rfl
      have z4_ : w'.cell? ⟨w.heap.size, 4, none⟩ = some (.bool false) := (blk_cell (blk_below HBr.out BX.out) 4).trans rfl
      refine value_ (w1 := w') (v := .agg #[.int .i64 1, .int .i64 1, .int .i64 0, .int .i64 0, .bool false]) (wanted_on rfl rfl rfl (e12.trans (by first | rfl | (simp [*]; done)))) rfl ?_ ?_
      · go_simp
        (try simp only [i64_w])
        try rfl
      refine hK.out _ _ ⟨(by rw [ha.out]; exact putSel_upk 13 hb_ rfl rfl rfl), Q_HBr⟩
    refine steps_cons ?_ ?_
    · rintro b a w' ⟨ha, Q_HBr⟩ hb_ hon hoff
      refine ⟨_, rfl, fun K hK => ?_⟩
      have e16 : a.tmps[16]? = some (.agg #[.int .i64 1, .int .i64 1, .int .i64 0, .int .i64 0, .bool false]) := by rw [ha]; exact putSel_on (e := (13, 16, .agg #[.int .i64 1, .int .i64 1, .int .i64 0, .int .i64 0, .bool false])) 13 rfl rfl (hon 13 (by kernel_rfl)) rfl
      have e12 : a.tmps[12]? = some (.bool true) := by rw [ha]; exact putSel_on (e := (9, 12, .bool true)) 9 rfl rfl (hon 9 (by kernel_rfl)) rfl
      replace ha := Aside0.mk ha
      have HBr := Aside0.mk Q_HBr
      refine goes_ Try.func28 (by kernel_rfl) rfl #[.agg #[.int .i64 1, .int .i64 1, .int .i64 0, .int .i64 0, .bool false]] (wanted_on rfl rfl rfl (e12.trans (by first | rfl | (simp [*]; done)))) rfl rfl (by first | (simp only [List.map_toArray, List.map_cons, List.map_nil, Act.eval, Array.getD_eq_getD_getElem?, Option.getD_some, e16, e12]; done) | (simp only [List.map_toArray, List.map_cons, List.map_nil, Act.eval, Array.getD_eq_getD_getElem?, Option.getD_some, e16, e12]; rfl)) ?_
      refine (ref_c ⟨1, 1, 0, 0, false⟩ _).mono ?_
      rintro e w1 ⟨rfl, hb1⟩
      refine ⟨_, rfl, ?_⟩
      refine hK.out _ _ ⟨(by rw [ha.out]; exact putSel_upk 14 hb_ rfl rfl rfl), below_step HBr.out hb1⟩
    refine steps_cons ?_ ?_
    · rintro b a w' ⟨ha, Q_HBr⟩ hb_ hon hoff
      refine ⟨_, rfl, fun K hK => ?_⟩
      have e14 : a.tmps[14]? = some (.agg #[.int .i64 1, .int .i64 1, .int .i64 0, .int .i64 0, .bool false]) := by rw [ha]; exact putSel_on (e := (11, 14, .agg #[.int .i64 1, .int .i64 1, .int .i64 0, .int .i64 0, .bool false])) 11 rfl rfl (hon 11 (by kernel_rfl)) rfl
      have e17 : a.tmps[17]? = some (.agg #[.int .i64 1, .int .i64 1, .int .i64 0, .int .i64 0, .bool false]) := by rw [ha]; exact putSel_on (e := (14, 17, .agg #[.int .i64 1, .int .i64 1, .int .i64 0, .int .i64 0, .bool false])) 14 rfl rfl (hon 14 (by kernel_rfl)) rfl
      have e12 : a.tmps[12]? = some (.bool true) := by rw [ha]; exact putSel_on (e := (9, 12, .bool true)) 9 rfl rfl (hon 9 (by kernel_rfl)) rfl
      replace ha := Aside0.mk ha
      have HBr := Aside0.mk Q_HBr
      refine value_ (w1 := w') (v := .bool true) (wanted_on rfl rfl rfl (e12.trans (by first | rfl | (simp [*]; done)))) rfl ?_ ?_
      · go_simp
        (try simp only [i64_w])
        try rfl
      refine hK.out _ _ ⟨(by rw [ha.out]; exact putSel_upk 15 hb_ rfl rfl rfl), Q_HBr⟩
    refine steps_cons ?_ ?_
    · rintro b a w' ⟨ha, Q_HBr⟩ hb_ hon hoff
      refine ⟨_, rfl, fun K hK => ?_⟩
      have e12 : a.tmps[12]? = some (.bool true) := by rw [ha]; exact putSel_on (e := (9, 12, .bool true)) 9 rfl rfl (hon 9 (by kernel_rfl)) rfl
      have e18 : a.tmps[18]? = some (.bool true) := by rw [ha]; exact putSel_on (e := (15, 18, .bool true)) 15 rfl rfl (hon 15 (by kernel_rfl)) rfl
      replace ha := Aside0.mk ha
      have HBr := Aside0.mk Q_HBr
      refine value_ (w1 := w') (v := .bool true) (by rfl) rfl ?_ ?_
      · go_simp
        (try simp only [i64_w])
        try rfl
      refine hK.out _ _ ⟨(by rw [ha.out]; exact putSel_upk 16 hb_ rfl rfl rfl), Q_HBr⟩
    refine steps_cons ?_ ?_
    · rintro b a w' ⟨ha, Q_HBr⟩ hb_ hon hoff
      refine ⟨_, rfl, fun K hK => ?_⟩
      have e19 : a.tmps[19]? = some (.bool true) := by rw [ha]; exact putSel_on (e := (16, 19, .bool true)) 16 rfl rfl (hon 16 (by kernel_rfl)) rfl
      replace ha := Aside0.mk ha
      have HBr := Aside0.mk Q_HBr
      refine value_ (w1 := w') (v := .bool true) (by rfl) rfl ?_ ?_
      · go_simp
        (try simp only [i64_w])
        try rfl
      refine hK.out _ _ ⟨(by rw [ha.out]; exact putSel_upk 17 hb_ rfl rfl rfl), Q_HBr⟩
    refine steps_cons ?_ ?_
    · rintro b a w' ⟨ha, Q_HBr⟩ hb_ hon hoff
      refine ⟨_, rfl, fun K hK => ?_⟩
      have e1 : a.tmps[1]? = some (.pointer (some ⟨w.heap.size, 0, none⟩)) := by rw [ha]; exact (putSel_off rfl).trans rfl
      have e20 : a.tmps[20]? = some (.bool true) := by rw [ha]; exact putSel_on (e := (17, 20, .bool true)) 17 rfl rfl (hon 17 (by kernel_rfl)) rfl
      replace ha := Aside0.mk ha
      have HBr := Aside0.mk Q_HBr
      refine value_ (w1 := w') (v := .pointer (some ⟨w.heap.size, 5, none⟩)) (wanted_on rfl rfl rfl (e20.trans (by first | rfl | (simp [*]; done)))) rfl ?_ ?_
      · go_simp
        (try simp only [i64_w])
        try rfl
      refine hK.out _ _ ⟨(by rw [ha.out]; exact putSel_upk 18 hb_ rfl rfl rfl), Q_HBr⟩
    refine steps_cons ?_ ?_
    · rintro b a w' ⟨ha, Q_HBr⟩ hb_ hon hoff
      refine ⟨_, rfl, fun K hK => ?_⟩
      have e21 : a.tmps[21]? = some (.pointer (some ⟨w.heap.size, 5, none⟩)) := by rw [ha]; exact putSel_on (e := (18, 21, .pointer (some ⟨w.heap.size, 5, none⟩))) 18 rfl rfl (hon 18 (by kernel_rfl)) rfl
      have e20 : a.tmps[20]? = some (.bool true) := by rw [ha]; exact putSel_on (e := (17, 20, .bool true)) 17 rfl rfl (hon 17 (by kernel_rfl)) rfl
      replace ha := Aside0.mk ha
      have HBr := Aside0.mk Q_HBr
      have z5_ : w'.cell? ⟨w.heap.size, 5, none⟩ = some (.int .i64 0) := (blk_cell (blk_below HBr.out BX.out) 5).trans rfl
      refine value_ (w1 := w') (v := .int .i64 0) (wanted_on rfl rfl rfl (e20.trans (by first | rfl | (simp [*]; done)))) rfl ?_ ?_
      · go_simp
        (try simp only [i64_w])
        try rfl
      refine hK.out _ _ ⟨(by rw [ha.out]; exact putSel_upk 19 hb_ rfl rfl rfl), Q_HBr⟩
    refine steps_cons ?_ ?_
    · rintro b a w' ⟨ha, Q_HBr⟩ hb_ hon hoff
      refine ⟨_, rfl, fun K hK => ?_⟩
      have e22 : a.tmps[22]? = some (.int .i64 0) := by rw [ha]; exact putSel_on (e := (19, 22, .int .i64 0)) 19 rfl rfl (hon 19 (by kernel_rfl)) rfl
      have e20 : a.tmps[20]? = some (.bool true) := by rw [ha]; exact putSel_on (e := (17, 20, .bool true)) 17 rfl rfl (hon 17 (by kernel_rfl)) rfl
      replace ha := Aside0.mk ha
      have HBr := Aside0.mk Q_HBr
      refine value_ (w1 := w') (v := .bool true) (wanted_on rfl rfl rfl (e20.trans (by first | rfl | (simp [*]; done)))) rfl ?_ ?_
      · go_simp
        (try simp only [i64_w])
        try rfl
      refine hK.out _ _ ⟨(by rw [ha.out]; exact putSel_upk 20 hb_ rfl rfl rfl), Q_HBr⟩
    refine steps_cons ?_ ?_
    · rintro b a w' ⟨ha, Q_HBr⟩ hb_ hon hoff
      refine ⟨_, rfl, fun K hK => ?_⟩
      have e20 : a.tmps[20]? = some (.bool true) := by rw [ha]; exact putSel_on (e := (17, 20, .bool true)) 17 rfl rfl (hon 17 (by kernel_rfl)) rfl
      have e23 : a.tmps[23]? = some (.bool true) := by rw [ha]; exact putSel_on (e := (20, 23, .bool true)) 20 rfl rfl (hon 20 (by kernel_rfl)) rfl
      replace ha := Aside0.mk ha
      have HBr := Aside0.mk Q_HBr
      refine value_ (w1 := w') (v := .bool true) (by rfl) rfl ?_ ?_
      · go_simp
        (try simp only [i64_w])
        try rfl
      refine hK.out _ _ ⟨(by rw [ha.out]; exact putSel_upk 21 hb_ rfl rfl rfl), Q_HBr⟩
    refine steps_cons ?_ ?_
    · rintro b a w' ⟨ha, Q_HBr⟩ hb_ hon hoff
      refine ⟨_, rfl, fun K hK => ?_⟩
      have e24 : a.tmps[24]? = some (.bool true) := by rw [ha]; exact putSel_on (e := (21, 24, .bool true)) 21 rfl rfl (hon 21 (by kernel_rfl)) rfl
      replace ha := Aside0.mk ha
      have HBr := Aside0.mk Q_HBr
      refine value_ (w1 := w') (v := .bool true) (by rfl) rfl ?_ ?_
      · go_simp
        (try simp only [i64_w])
        try rfl
      refine hK.out _ _ ⟨(by rw [ha.out]; exact putSel_upk 22 hb_ rfl rfl rfl), Q_HBr⟩
    refine steps_cons ?_ ?_
    · rintro b a w' ⟨ha, Q_HBr⟩ hb_ hon hoff
      refine ⟨_, rfl, fun K hK => ?_⟩
      have e1 : a.tmps[1]? = some (.pointer (some ⟨w.heap.size, 0, none⟩)) := by rw [ha]; exact (putSel_off rfl).trans rfl
      have e25 : a.tmps[25]? = some (.bool true) := by rw [ha]; exact putSel_on (e := (22, 25, .bool true)) 22 rfl rfl (hon 22 (by kernel_rfl)) rfl
      replace ha := Aside0.mk ha
      have HBr := Aside0.mk Q_HBr
      refine value_ (w1 := w') (v := .pointer (some ⟨w.heap.size, 5, none⟩)) (wanted_on rfl rfl rfl (e25.trans (by first | rfl | (simp [*]; done)))) rfl ?_ ?_
      · go_simp
        (try simp only [i64_w])
        try rfl
      refine hK.out _ _ ⟨(by rw [ha.out]; exact putSel_upk 23 hb_ rfl rfl rfl), Q_HBr⟩
    refine steps_cons ?_ ?_
    · rintro b a w' ⟨ha, Q_HBr⟩ hb_ hon hoff
      refine ⟨_, rfl, fun K hK => ?_⟩
      have e26 : a.tmps[26]? = some (.pointer (some ⟨w.heap.size, 5, none⟩)) := by rw [ha]; exact putSel_on (e := (23, 26, .pointer (some ⟨w.heap.size, 5, none⟩))) 23 rfl rfl (hon 23 (by kernel_rfl)) rfl
      have e25 : a.tmps[25]? = some (.bool true) := by rw [ha]; exact putSel_on (e := (22, 25, .bool true)) 22 rfl rfl (hon 22 (by kernel_rfl)) rfl
      replace ha := Aside0.mk ha
      have HBr := Aside0.mk Q_HBr
      have z5_ : w'.cell? ⟨w.heap.size, 5, none⟩ = some (.int .i64 0) := (blk_cell (blk_below HBr.out BX.out) 5).trans rfl
      refine value_ (w1 := w') (v := .int .i64 0) (wanted_on rfl rfl rfl (e25.trans (by first | rfl | (simp [*]; done)))) rfl ?_ ?_
      · go_simp
        (try simp only [i64_w])
        try rfl
      refine hK.out _ _ ⟨(by rw [ha.out]; exact putSel_upk 24 hb_ rfl rfl rfl), Q_HBr⟩
    refine steps_cons ?_ ?_
    · rintro b a w' ⟨ha, Q_HBr⟩ hb_ hon hoff
      refine ⟨_, rfl, fun K hK => ?_⟩
      have e1 : a.tmps[1]? = some (.pointer (some ⟨w.heap.size, 0, none⟩)) := by rw [ha]; exact (putSel_off rfl).trans rfl
      have e25 : a.tmps[25]? = some (.bool true) := by rw [ha]; exact putSel_on (e := (22, 25, .bool true)) 22 rfl rfl (hon 22 (by kernel_rfl)) rfl
      replace ha := Aside0.mk ha
      have HBr := Aside0.mk Q_HBr
      refine value_ (w1 := w') (v := .pointer (some ⟨w.heap.size, 6, none⟩)) (wanted_on rfl rfl rfl (e25.trans (by first | rfl | (simp [*]; done)))) rfl ?_ ?_
      · go_simp
        (try simp only [i64_w])
        try rfl
      refine hK.out _ _ ⟨(by rw [ha.out]; exact putSel_upk 25 hb_ rfl rfl rfl), Q_HBr⟩
    refine steps_cons ?_ ?_
    · rintro b a w' ⟨ha, Q_HBr⟩ hb_ hon hoff
      refine ⟨_, rfl, fun K hK => ?_⟩
      have e28 : a.tmps[28]? = some (.pointer (some ⟨w.heap.size, 6, none⟩)) := by rw [ha]; exact putSel_on (e := (25, 28, .pointer (some ⟨w.heap.size, 6, none⟩))) 25 rfl rfl (hon 25 (by kernel_rfl)) rfl
      have e25 : a.tmps[25]? = some (.bool true) := by rw [ha]; exact putSel_on (e := (22, 25, .bool true)) 22 rfl rfl (hon 22 (by kernel_rfl)) rfl
      replace ha := Aside0.mk ha
      have HBr := Aside0.mk Q_HBr
      have z6_ : w'.cell? ⟨w.heap.size, 6, none⟩ = some (.int .i64 3) := (blk_cell (blk_below HBr.out BX.out) 6).trans rfl
      refine value_ (w1 := w') (v := .int .i64 3) (wanted_on rfl rfl rfl (e25.trans (by first | rfl | (simp [*]; done)))) rfl ?_ ?_
      · go_simp
        (try simp only [i64_w])
        try rfl
      refine hK.out _ _ ⟨(by rw [ha.out]; exact putSel_upk 26 hb_ rfl rfl rfl), Q_HBr⟩
    refine steps_cons ?_ ?_
    · rintro b a w' ⟨ha, Q_HBr⟩ hb_ hon hoff
      refine ⟨_, rfl, fun K hK => ?_⟩
      have e27 : a.tmps[27]? = some (.int .i64 0) := by rw [ha]; exact putSel_on (e := (24, 27, .int .i64 0)) 24 rfl rfl (hon 24 (by kernel_rfl)) rfl
      have e29 : a.tmps[29]? = some (.int .i64 3) := by rw [ha]; exact putSel_on (e := (26, 29, .int .i64 3)) 26 rfl rfl (hon 26 (by kernel_rfl)) rfl
      have e25 : a.tmps[25]? = some (.bool true) := by rw [ha]; exact putSel_on (e := (22, 25, .bool true)) 22 rfl rfl (hon 22 (by kernel_rfl)) rfl
      replace ha := Aside0.mk ha
      have HBr := Aside0.mk Q_HBr
      refine value_ (w1 := w') (v := .bool true) (wanted_on rfl rfl rfl (e25.trans (by first | rfl | (simp [*]; done)))) rfl ?_ ?_
      · go_simp
        (try simp only [i64_w])
        try rfl
      refine hK.out _ _ ⟨(by rw [ha.out]; exact putSel_upk 27 hb_ rfl rfl rfl), Q_HBr⟩
    refine steps_cons ?_ ?_
    · rintro b a w' ⟨ha, Q_HBr⟩ hb_ hon hoff
      refine ⟨_, rfl, fun K hK => ?_⟩
      have e25 : a.tmps[25]? = some (.bool true) := by rw [ha]; exact putSel_on (e := (22, 25, .bool true)) 22 rfl rfl (hon 22 (by kernel_rfl)) rfl
      have e30 : a.tmps[30]? = some (.bool true) := by rw [ha]; exact putSel_on (e := (27, 30, .bool true)) 27 rfl rfl (hon 27 (by kernel_rfl)) rfl
      replace ha := Aside0.mk ha
      have HBr := Aside0.mk Q_HBr
      refine value_ (w1 := w') (v := .bool true) (by rfl) rfl ?_ ?_
      · go_simp
        (try simp only [i64_w])
        try rfl
      refine hK.out _ _ ⟨(by rw [ha.out]; exact putSel_upk 28 hb_ rfl rfl rfl), Q_HBr⟩
    refine steps_cons ?_ ?_
    · rintro b a w' ⟨ha, Q_HBr⟩ hb_ hon hoff
      refine ⟨_, rfl, fun K hK => ?_⟩
      have e31 : a.tmps[31]? = some (.bool true) := by rw [ha]; exact putSel_on (e := (28, 31, .bool true)) 28 rfl rfl (hon 28 (by kernel_rfl)) rfl
      replace ha := Aside0.mk ha
      have HBr := Aside0.mk Q_HBr
      refine value_ (w1 := w') (v := .bool true) (by rfl) rfl ?_ ?_
      · go_simp
        (try simp only [i64_w])
        try rfl
      refine hK.out _ _ ⟨(by rw [ha.out]; exact putSel_upk 29 hb_ rfl rfl rfl), Q_HBr⟩
    refine steps_cons ?_ ?_
    · rintro b a w' ⟨ha, Q_HBr⟩ hb_ hon hoff
      refine ⟨_, rfl, fun K hK => ?_⟩
      have e1 : a.tmps[1]? = some (.pointer (some ⟨w.heap.size, 0, none⟩)) := by rw [ha]; exact (putSel_off rfl).trans rfl
      have e32 : a.tmps[32]? = some (.bool true) := by rw [ha]; exact putSel_on (e := (29, 32, .bool true)) 29 rfl rfl (hon 29 (by kernel_rfl)) rfl
      replace ha := Aside0.mk ha
      have HBr := Aside0.mk Q_HBr
      refine value_ (w1 := w') (v := .pointer (some ⟨w.heap.size, 6, none⟩)) (wanted_on rfl rfl rfl (e32.trans (by first | rfl | (simp [*]; done)))) rfl ?_ ?_
      · go_simp
        (try simp only [i64_w])
        try rfl
      refine hK.out _ _ ⟨(by rw [ha.out]; exact putSel_upk 30 hb_ rfl rfl rfl), Q_HBr⟩
    refine steps_cons ?_ ?_
    · rintro b a w' ⟨ha, Q_HBr⟩ hb_ hon hoff
      refine ⟨_, rfl, fun K hK => ?_⟩
      have e33 : a.tmps[33]? = some (.pointer (some ⟨w.heap.size, 6, none⟩)) := by rw [ha]; exact putSel_on (e := (30, 33, .pointer (some ⟨w.heap.size, 6, none⟩))) 30 rfl rfl (hon 30 (by kernel_rfl)) rfl
      have e32 : a.tmps[32]? = some (.bool true) := by rw [ha]; exact putSel_on (e := (29, 32, .bool true)) 29 rfl rfl (hon 29 (by kernel_rfl)) rfl
      replace ha := Aside0.mk ha
      have HBr := Aside0.mk Q_HBr
      have z6_ : w'.cell? ⟨w.heap.size, 6, none⟩ = some (.int .i64 3) := (blk_cell (blk_below HBr.out BX.out) 6).trans rfl
      refine value_ (w1 := w') (v := .int .i64 3) (wanted_on rfl rfl rfl (e32.trans (by first | rfl | (simp [*]; done)))) rfl ?_ ?_
      · go_simp
        (try simp only [i64_w])
        try rfl
      refine hK.out _ _ ⟨(by rw [ha.out]; exact putSel_upk 31 hb_ rfl rfl rfl), Q_HBr⟩
    refine steps_cons ?_ ?_
    · rintro b a w' ⟨ha, Q_HBr⟩ hb_ hon hoff
      refine ⟨_, rfl, fun K hK => ?_⟩
      have e34 : a.tmps[34]? = some (.int .i64 3) := by rw [ha]; exact putSel_on (e := (31, 34, .int .i64 3)) 31 rfl rfl (hon 31 (by kernel_rfl)) rfl
      have e32 : a.tmps[32]? = some (.bool true) := by rw [ha]; exact putSel_on (e := (29, 32, .bool true)) 29 rfl rfl (hon 29 (by kernel_rfl)) rfl
      replace ha := Aside0.mk ha
      have HBr := Aside0.mk Q_HBr
      refine value_ (w1 := w') (v := .bool true) (wanted_on rfl rfl rfl (e32.trans (by first | rfl | (simp [*]; done)))) rfl ?_ ?_
      · go_simp
        (try simp only [i64_w])
        try rfl
      refine hK.out _ _ ⟨(by rw [ha.out]; exact putSel_upk 32 hb_ rfl rfl rfl), Q_HBr⟩
    refine steps_cons ?_ ?_
    · rintro b a w' ⟨ha, Q_HBr⟩ hb_ hon hoff
      refine ⟨_, rfl, fun K hK => ?_⟩
      have e32 : a.tmps[32]? = some (.bool true) := by rw [ha]; exact putSel_on (e := (29, 32, .bool true)) 29 rfl rfl (hon 29 (by kernel_rfl)) rfl
      have e35 : a.tmps[35]? = some (.bool true) := by rw [ha]; exact putSel_on (e := (32, 35, .bool true)) 32 rfl rfl (hon 32 (by kernel_rfl)) rfl
      replace ha := Aside0.mk ha
      have HBr := Aside0.mk Q_HBr
      refine value_ (w1 := w') (v := .bool true) (by rfl) rfl ?_ ?_
      · go_simp
        (try simp only [i64_w])
        try rfl
      refine hK.out _ _ ⟨(by rw [ha.out]; exact putSel_upk 33 hb_ rfl rfl rfl), Q_HBr⟩
    refine steps_cons ?_ ?_
    · rintro b a w' ⟨ha, Q_HBr⟩ hb_ hon hoff
      refine ⟨_, rfl, fun K hK => ?_⟩
      have e36 : a.tmps[36]? = some (.bool true) := by rw [ha]; exact putSel_on (e := (33, 36, .bool true)) 33 rfl rfl (hon 33 (by kernel_rfl)) rfl
      replace ha := Aside0.mk ha
      have HBr := Aside0.mk Q_HBr
      refine value_ (w1 := w') (v := .bool true) (by rfl) rfl ?_ ?_
      · go_simp
        (try simp only [i64_w])
        try rfl
      refine hK.out _ _ ⟨(by rw [ha.out]; exact putSel_upk 34 hb_ rfl rfl rfl), Q_HBr⟩
    exact steps_nil
  · rintro b a w' hall ⟨ha, Q_HBr⟩
    clear HBr
    have hb0_ := hall 0 (by kernel_rfl)
    have hb1_ := hall 1 (by kernel_rfl)
    have hb2_ := hall 2 (by kernel_rfl)
    have hb3_ := hall 3 (by kernel_rfl)
    have hb4_ := hall 4 (by kernel_rfl)
    have hb5_ := hall 5 (by kernel_rfl)
    have hb6_ := hall 6 (by kernel_rfl)
    have hb7_ := hall 7 (by kernel_rfl)
    have hb8_ := hall 8 (by kernel_rfl)
    have hb9_ := hall 9 (by kernel_rfl)
    have hb10_ := hall 10 (by kernel_rfl)
    have hb11_ := hall 11 (by kernel_rfl)
    have hb12_ := hall 12 (by kernel_rfl)
    have hb13_ := hall 13 (by kernel_rfl)
    have hb14_ := hall 14 (by kernel_rfl)
    have hb15_ := hall 15 (by kernel_rfl)
    have hb16_ := hall 16 (by kernel_rfl)
    have hb17_ := hall 17 (by kernel_rfl)
    have hb18_ := hall 18 (by kernel_rfl)
    have hb19_ := hall 19 (by kernel_rfl)
    have hb20_ := hall 20 (by kernel_rfl)
    have hb21_ := hall 21 (by kernel_rfl)
    have hb22_ := hall 22 (by kernel_rfl)
    have hb23_ := hall 23 (by kernel_rfl)
    have hb24_ := hall 24 (by kernel_rfl)
    have hb25_ := hall 25 (by kernel_rfl)
    have hb26_ := hall 26 (by kernel_rfl)
    have hb27_ := hall 27 (by kernel_rfl)
    have hb28_ := hall 28 (by kernel_rfl)
    have hb29_ := hall 29 (by kernel_rfl)
    have hb30_ := hall 30 (by kernel_rfl)
    have hb31_ := hall 31 (by kernel_rfl)
    have hb32_ := hall 32 (by kernel_rfl)
    have hb33_ := hall 33 (by kernel_rfl)
    have hb34_ := hall 34 (by kernel_rfl)
    subst ha
    simp only [putSel, hb0_, hb1_, hb2_, hb3_, hb4_, hb5_, hb6_, hb7_, hb8_, hb9_, hb10_, hb11_, hb12_, hb13_, hb14_, hb15_, hb16_, hb17_, hb18_, hb19_, hb20_, hb21_, hb22_, hb23_, hb24_, hb25_, hb26_, hb27_, hb28_, hb29_, hb30_, hb31_, hb32_, hb33_, hb34_, if_true, Act.put, List.setIfInBounds_toArray, List.set_cons_zero, List.set_cons_succ]
    have HBr := Aside0.mk Q_HBr
    clear Q_HBr
    clear hall hb0_ hb1_ hb2_ hb3_ hb4_ hb5_ hb6_ hb7_ hb8_ hb9_ hb10_ hb11_ hb12_ hb13_ hb14_ hb15_ hb16_ hb17_ hb18_ hb19_ hb20_ hb21_ hb22_ hb23_ hb24_ hb25_ hb26_ hb27_ hb28_ hb29_ hb30_ hb31_ hb32_ hb33_ hb34_
    go_wp2
    go_ret
    exact ⟨rfl, below_step hb0 HBr.out⟩
def good_no.T1 : Bool × List (List Nat × List Nat) := (true, [([], []), ([0], [0]), ([1], [1]), ([2, 2], [2]), ([3], [3]), ([4, 3], [3, 4]), ([5, 3, 3], [3, 5]), ([6, 3], [3, 6]), ([3, 7], [3, 7]), ([8, 6], [8]), ([9], [9]), ([10, 9], [9, 10]), ([9], [9]), ([12, 9], [9, 12]), ([13, 9, 9], [9, 13]), ([11, 14, 9], [9, 11, 14]), ([9, 15], [9, 15]), ([16, 14], [16]), ([17], [17]), ([18, 17], [17, 18]), ([19, 17], [17, 19]), ([17, 20], [17, 20]), ([21, 17], [21]), ([22], [22]), ([23, 22], [22, 23]), ([22], [22]), ([25, 22], [22, 25]), ([24, 26, 22], [22, 24, 26]), ([22, 27], [22, 27]), ([28, 22], [28]), ([29], [29]), ([30, 29], [29, 30]), ([31, 29], [29, 31]), ([29, 32], [29, 32]), ([33, 29, 0, 1, 2, 3, 4, 5, 6, 7, 8, 9, 10, 11, 12, 13, 14, 15, 16, 17, 18, 19, 20, 21, 22, 23, 24, 25, 26, 27, 28, 29, 30, 31, 32, 33], [33])])
def good_no.B1 : List Nat := [0, 1, 3, 7, 15, 31, 63, 127, 255, 511, 1023, 2047, 1023, 5119, 13311, 32767, 65535, 131071, 262143, 524287, 1048575, 2097151, 4194303, 8388607, 16777215, 8388607, 41943039, 134217727, 268435455, 536870911, 1073741823, 2147483647, 4294967295, 8589934591, 17179869183]
theorem good_no.tab1 : rtab .any (opsOf Try.f20 1) = good_no.T1 := by kernel_rfl
theorem good_no.bits1 : waitsOk good_no.T1.2 good_no.B1 = true := by kernel_rfl
set_option maxHeartbeats 4000000 in
theorem good_no (w : World) : Calls Try.prog 20 #[v39 (z39)] w fun e w' => e = .returned (.bool false) ∧ Below w.heap.size w w' := by
  have hu39 := Try.underlying39
  have hu37 := Try.underlying37
  unfold v39
  obtain ⟨wr, hwr⟩ : ∃ wr, wr = w.alloc (o39 (z39)) := ⟨_, rfl⟩
  have hb0 : Below w.heap.size w wr := by rw [hwr]; exact below_alloc (Below.refl _ _) _
  have BX := Aside0.mk (show wr.heap[w.heap.size]? = some (o39 (z39)) by rw [hwr]; exact blk_new w _)
  have HWR := Aside0.mk hwr
  clear hwr
  go_enter Try.func20, Try.ntmps20
  go_wp2_with fail
  rw [show w.alloc _ = wr from HWR.out.symm]
  refine start_ (n := 35) (S := fun w' => True) (ds := []) #[false, false, false, false, false, false, false, false, false, false, false, false, false, false, false, false, false, false, false, false, false, false, false, false, false, false, false, false, false, false, false, false, false, false, false] (by kernel_rfl) rfl rfl trivial (fun hHeld => ?_)
  refine with_tabW good_no.tab1 good_no.bits1 (fun HT_ HW_ => ?_)
  have HBr := Aside0.mk (below_drew1 (Below.refl wr.heap.size wr))
  refine inv_at [0, 1, 2, 3, 4, 5, 6, 7, 8, 9, 10, 11, 12, 13, 14, 15, 16, 17, 18, 19, 20, 21, 22, 23, 24, 25, 26, 27, 28, 29, 30, 31, 32, 33, 34] (fun a0_ b a w' => a = putSel a0_ b [(0, 3, .pointer (some ⟨w.heap.size, 0, none⟩)), (1, 4, .agg #[.int .i64 0, .int .i64 0, .int .i64 0, .int .i64 0, .bool false]), (2, 5, .bool true), (3, 6, .bool true), (4, 7, .pointer (some ⟨w.heap.size, 0, none⟩)), (5, 8, .agg #[.int .i64 0, .int .i64 0, .int .i64 0, .int .i64 0, .bool false]), (6, 9, .bool true), (7, 10, .bool false), (8, 11, .bool false), (9, 12, .bool false), (10, 13, undef), (11, 14, undef), (12, 15, undef), (13, 16, undef), (14, 17, undef), (15, 18, undef), (16, 19, .bool false), (17, 20, .bool false), (18, 21, undef), (19, 22, undef), (20, 23, undef), (21, 24, .bool false), (22, 25, .bool false), (23, 26, undef), (24, 27, undef), (25, 28, undef), (26, 29, undef), (27, 30, undef), (28, 31, .bool false), (29, 32, .bool false), (30, 33, undef), (31, 34, undef), (32, 35, undef), (33, 36, .bool false), (34, 2, .bool false)] ∧ (Below wr.heap.size wr w')) HT_.out HW_.out (by kernel_rfl) (by kernel_rfl) ?_ ?_ ?_
  · exact ⟨by simp only [putSel, Bool.false_eq_true, if_false], HBr.out⟩
  · skip
    clear HBr
    refine steps_cons ?_ ?_
    · rintro b a w' ⟨ha, Q_HBr⟩ hb_ hon hoff
      refine ⟨_, rfl, fun K hK => ?_⟩
      have e1 : a.tmps[1]? = some (.pointer (some ⟨w.heap.size, 0, none⟩)) := by rw [ha]; exact (putSel_off rfl).trans rfl
      replace ha := Aside0.mk ha
      have HBr := Aside0.mk Q_HBr
      refine value_ (w1 := w') (v := .pointer (some ⟨w.heap.size, 0, none⟩)) (by rfl) rfl ?_ ?_
      · go_simp
        (try simp only [i64_w])
        try rfl
      refine hK.out _ _ ⟨(by rw [ha.out]; exact putSel_upk 0 hb_ rfl rfl rfl), Q_HBr⟩
    refine steps_cons ?_ ?_
    · rintro b a w' ⟨ha, Q_HBr⟩ hb_ hon hoff
      refine ⟨_, rfl, fun K hK => ?_⟩
      have e3 : a.tmps[3]? = some (.pointer (some ⟨w.heap.size, 0, none⟩)) := by rw [ha]; exact putSel_on (e := (0, 3, .pointer (some ⟨w.heap.size, 0, none⟩))) 0 rfl rfl (hon 0 (by kernel_rfl)) rfl
      replace ha := Aside0.mk ha
      have HBr := Aside0.mk Q_HBr
      have z0_ : w'.cell? ⟨w.heap.size, 0, none⟩ = some (.int .i64 0) := (blk_cell (blk_below HBr.out BX.out) 0).trans rfl
      have z1_ : w'.cell? ⟨w.heap.size, 1, none⟩ = some (.int .i64 0) := (blk_cell (blk_below HBr.out BX.out) 1).trans rfl
      have z2_ : w'.cell? ⟨w.heap.size, 2, none⟩ = some (.int .i64 0) := (blk_cell (blk_below HBr.out BX.out) 2).trans rfl
      have z3_ : w'.cell? ⟨w.heap.size, 3, none⟩ = some (.int .i64 0) := (blk_cell (blk_below HBr.out BX.out) 3).trans rfl
      have z4_ : w'.cell? ⟨w.heap.size, 4, none⟩ = some (.bool false) := (blk_cell (blk_below HBr.out BX.out) 4).trans rfl
      refine value_ (w1 := w') (v := .agg #[.int .i64 0, .int .i64 0, .int .i64 0, .int .i64 0, .bool false]) (by rfl) rfl ?_ ?_
      · go_simp
        (try simp only [i64_w])
        try rfl
      refine hK.out _ _ ⟨(by rw [ha.out]; exact putSel_upk 1 hb_ rfl rfl rfl), Q_HBr⟩
    refine steps_cons ?_ ?_
    · rintro b a w' ⟨ha, Q_HBr⟩ hb_ hon hoff
      refine ⟨_, rfl, fun K hK => ?_⟩
      have e4 : a.tmps[4]? = some (.agg #[.int .i64 0, .int .i64 0, .int .i64 0, .int .i64 0, .bool false]) := by rw [ha]; exact putSel_on (e := (1, 4, .agg #[.int .i64 0, .int .i64 0, .int .i64 0, .int .i64 0, .bool false])) 1 rfl rfl (hon 1 (by kernel_rfl)) rfl
      replace ha := Aside0.mk ha
      have HBr := Aside0.mk Q_HBr
      refine goes_ Try.func26 (by kernel_rfl) rfl #[.agg #[.int .i64 0, .int .i64 0, .int .i64 0, .int .i64 0, .bool false]] (by rfl) rfl rfl (by first | (simp only [List.map_toArray, List.map_cons, List.map_nil, Act.eval, Array.getD_eq_getD_getElem?, Option.getD_some, e4]; done) | (simp only [List.map_toArray, List.map_cons, List.map_nil, Act.eval, Array.getD_eq_getD_getElem?, Option.getD_some, e4]; rfl)) ?_
      refine (gg_c 0 (.inl rfl) _).mono ?_
      rintro e w1 ⟨rfl, hb1⟩
      refine ⟨_, rfl, ?_⟩
      refine hK.out _ _ ⟨(by rw [ha.out]; exact putSel_upk 2 hb_ rfl rfl rfl), below_step HBr.out hb1⟩
    refine steps_cons ?_ ?_
    · rintro b a w' ⟨ha, Q_HBr⟩ hb_ hon hoff
      refine ⟨_, rfl, fun K hK => ?_⟩
      have e5 : a.tmps[5]? = some (.bool true) := by rw [ha]; exact putSel_on (e := (2, 5, .bool true)) 2 rfl rfl (hon 2 (by kernel_rfl)) rfl
      replace ha := Aside0.mk ha
      have HBr := Aside0.mk Q_HBr
      refine value_ (w1 := w') (v := .bool true) (by rfl) rfl ?_ ?_
      · go_simp
        (try simp only [i64_w])
        try rfl
      refine hK.out _ _ ⟨(by rw [ha.out]; exact putSel_upk 3 hb_ rfl rfl rfl), Q_HBr⟩
    refine steps_cons ?_ ?_
    · rintro b a w' ⟨ha, Q_HBr⟩ hb_ hon hoff
      refine ⟨_, rfl, fun K hK => ?_⟩
      have e1 : a.tmps[1]? = some (.pointer (some ⟨w.heap.size, 0, none⟩)) := by rw [ha]; exact (putSel_off rfl).trans rfl
      have e6 : a.tmps[6]? = some (.bool true) := by rw [ha]; exact putSel_on (e := (3, 6, .bool true)) 3 rfl rfl (hon 3 (by kernel_rfl)) rfl
      replace ha := Aside0.mk ha
      have HBr := Aside0.mk Q_HBr
      refine value_ (w1 := w') (v := .pointer (some ⟨w.heap.size, 0, none⟩)) (wanted_on rfl rfl rfl (e6.trans (by first | rfl | (simp [*]; done)))) rfl ?_ ?_
      · go_simp
        (try simp only [i64_w])
        try rfl
      refine hK.out _ _ ⟨(by rw [ha.out]; exact putSel_upk 4 hb_ rfl rfl rfl), Q_HBr⟩
    refine steps_cons ?_ ?_
    · rintro b a w' ⟨ha, Q_HBr⟩ hb_ hon hoff
      refine ⟨_, rfl, fun K hK => ?_⟩
      have e7 : a.tmps[7]? = some (.pointer (some ⟨w.heap.size, 0, none⟩)) := by rw [ha]; exact putSel_on (e := (4, 7, .pointer (some ⟨w.heap.size, 0, none⟩))) 4 rfl rfl (hon 4 (by kernel_rfl)) rfl
      have e6 : a.tmps[6]? = some (.bool true) := by rw [ha]; exact putSel_on (e := (3, 6, .bool true)) 3 rfl rfl (hon 3 (by kernel_rfl)) rfl
      replace ha := Aside0.mk ha
      have HBr := Aside0.mk Q_HBr
      have z0_ : w'.cell? ⟨w.heap.size, 0, none⟩ = some (.int .i64 0) := (blk_cell (blk_below HBr.out BX.out) 0).trans rfl
      have z1_ : w'.cell? ⟨w.heap.size, 1, none⟩ = some (.int .i64 0) := (blk_cell (blk_below HBr.out BX.out) 1).trans rfl
      have z2_ : w'.cell? ⟨w.heap.size, 2, none⟩ = some (.int .i64 0) := (blk_cell (blk_below HBr.out BX.out) 2).trans rfl
      have z3_ : w'.cell? ⟨w.heap.size, 3, none⟩ = some (.int .i64 0) := (blk_cell (blk_below HBr.out BX.out) 3).trans rfl
      have z4_ : w'.cell? ⟨w.heap.size, 4, none⟩ = some (.bool false) := (blk_cell (blk_below HBr.out BX.out) 4).trans rfl
      refine value_ (w1 := w') (v := .agg #[.int .i64 0, .int .i64 0, .int .i64 0, .int .i64 0, .bool false]) (wanted_on rfl rfl rfl (e6.trans (by first | rfl | (simp [*]; done)))) rfl ?_ ?_
      · go_simp
        (try simp only [i64_w])
        try rfl
      refine hK.out _ _ ⟨(by rw [ha.out]; exact putSel_upk 5 hb_ rfl rfl rfl), Q_HBr⟩
    refine steps_cons ?_ ?_
    · rintro b a w' ⟨ha, Q_HBr⟩ hb_ hon hoff
      refine ⟨_, rfl, fun K hK => ?_⟩
      have e8 : a.tmps[8]? = some (.agg #[.int .i64 0, .int .i64 0, .int .i64 0, .int .i64 0, .bool false]) := by rw [ha]; exact putSel_on (e := (5, 8, .agg #[.int .i64 0, .int .i64 0, .int .i64 0, .int .i64 0, .bool false])) 5 rfl rfl (hon 5 (by kernel_rfl)) rfl
      have e6 : a.tmps[6]? = some (.bool true) := by rw [ha]; exact putSel_on (e := (3, 6, .bool true)) 3 rfl rfl (hon 3 (by kernel_rfl)) rfl
      replace ha := Aside0.mk ha
      have HBr := Aside0.mk Q_HBr
      refine goes_ Try.func27 (by kernel_rfl) rfl #[.agg #[.int .i64 0, .int .i64 0, .int .i64 0, .int .i64 0, .bool false]] (wanted_on rfl rfl rfl (e6.trans (by first | rfl | (simp [*]; done)))) rfl rfl (by first | (simp only [List.map_toArray, List.map_cons, List.map_nil, Act.eval, Array.getD_eq_getD_getElem?, Option.getD_some, e8, e6]; done) | (simp only [List.map_toArray, List.map_cons, List.map_nil, Act.eval, Array.getD_eq_getD_getElem?, Option.getD_some, e8, e6]; rfl)) ?_
      refine (nil_c ⟨0, 0, 0, 0, false⟩ _).mono ?_
      rintro e w1 ⟨rfl, hb1⟩
      refine ⟨_, rfl, ?_⟩
      refine hK.out _ _ ⟨(by rw [ha.out]; exact putSel_upk 6 hb_ rfl rfl rfl), below_step HBr.out hb1⟩
    refine steps_cons ?_ ?_
    · rintro b a w' ⟨ha, Q_HBr⟩ hb_ hon hoff
      refine ⟨_, rfl, fun K hK => ?_⟩
      have e9 : a.tmps[9]? = some (.bool true) := by rw [ha]; exact putSel_on (e := (6, 9, .bool true)) 6 rfl rfl (hon 6 (by kernel_rfl)) rfl
      have e6 : a.tmps[6]? = some (.bool true) := by rw [ha]; exact putSel_on (e := (3, 6, .bool true)) 3 rfl rfl (hon 3 (by kernel_rfl)) rfl
      replace ha := Aside0.mk ha
      have HBr := Aside0.mk Q_HBr
      refine value_ (w1 := w') (v := .bool false) (wanted_on rfl rfl rfl (e6.trans (by first | rfl | (simp [*]; done)))) rfl ?_ ?_
      · go_simp
        (try simp only [i64_w])
        try rfl
      refine hK.out _ _ ⟨(by rw [ha.out]; exact putSel_upk 7 hb_ rfl rfl rfl), Q_HBr⟩
    refine steps_cons ?_ ?_
    · rintro b a w' ⟨ha, Q_HBr⟩ hb_ hon hoff
      refine ⟨_, rfl, fun K hK => ?_⟩
      have e6 : a.tmps[6]? = some (.bool true) := by rw [ha]; exact putSel_on (e := (3, 6, .bool true)) 3 rfl rfl (hon 3 (by kernel_rfl)) rfl
      have e10 : a.tmps[10]? = some (.bool false) := by rw [ha]; exact putSel_on (e := (7, 10, .bool false)) 7 rfl rfl (hon 7 (by kernel_rfl)) rfl
      replace ha := Aside0.mk ha
      have HBr := Aside0.mk Q_HBr
      refine value_ (w1 := w') (v := .bool false) (by rfl) rfl ?_ ?_
      · go_simp
        (try simp only [i64_w])
        try rfl
      refine hK.out _ _ ⟨(by rw [ha.out]; exact putSel_upk 8 hb_ rfl rfl rfl), Q_HBr⟩
    refine steps_cons ?_ ?_
    · rintro b a w' ⟨ha, Q_HBr⟩ hb_ hon hoff
      refine ⟨_, rfl, fun K hK => ?_⟩
      have e11 : a.tmps[11]? = some (.bool false) := by rw [ha]; exact putSel_on (e := (8, 11, .bool false)) 8 rfl rfl (hon 8 (by kernel_rfl)) rfl
      replace ha := Aside0.mk ha
      have HBr := Aside0.mk Q_HBr
      refine value_ (w1 := w') (v := .bool false) (by rfl) rfl ?_ ?_
      · go_simp
        (try simp only [i64_w])
        try rfl
      refine hK.out _ _ ⟨(by rw [ha.out]; exact putSel_upk 9 hb_ rfl rfl rfl), Q_HBr⟩
    refine steps_cons ?_ ?_
    · rintro b a w' ⟨ha, Q_HBr⟩ hb_ hon hoff
      refine ⟨_, rfl, fun K hK => ?_⟩
      have e12 : a.tmps[12]? = some (.bool false) := by rw [ha]; exact putSel_on (e := (9, 12, .bool false)) 9 rfl rfl (hon 9 (by kernel_rfl)) rfl
      replace ha := Aside0.mk ha
      have HBr := Aside0.mk Q_HBr
      refine off_ (wanted_off rfl rfl rfl (e12.trans (by first | rfl | (simp [*]; done)))) ?_
      refine hK.out _ _ ⟨(by rw [ha.out]; exact putSel_upk 10 hb_ rfl rfl rfl), Q_HBr⟩
    refine steps_cons ?_ ?_
    · rintro b a w' ⟨ha, Q_HBr⟩ hb_ hon hoff
      refine ⟨_, rfl, fun K hK => ?_⟩
      have e12 : a.tmps[12]? = some (.bool false) := by rw [ha]; exact putSel_on (e := (9, 12, .bool false)) 9 rfl rfl (hon 9 (by kernel_rfl)) rfl
      replace ha := Aside0.mk ha
      have HBr := Aside0.mk Q_HBr
      refine off_ (wanted_off rfl rfl rfl (e12.trans (by first | rfl | (simp [*]; done)))) ?_
      refine hK.out _ _ ⟨(by rw [ha.out]; exact putSel_upk 11 hb_ rfl rfl rfl), Q_HBr⟩
    refine steps_cons ?_ ?_
    · rintro b a w' ⟨ha, Q_HBr⟩ hb_ hon hoff
      refine ⟨_, rfl, fun K hK => ?_⟩
      have e12 : a.tmps[12]? = some (.bool false) := by rw [ha]; exact putSel_on (e := (9, 12, .bool false)) 9 rfl rfl (hon 9 (by kernel_rfl)) rfl
      replace ha := Aside0.mk ha
      have HBr := Aside0.mk Q_HBr
      refine off_ (wanted_off rfl rfl rfl (e12.trans (by first | rfl | (simp [*]; done)))) ?_
      refine hK.out _ _ ⟨(by rw [ha.out]; exact putSel_upk 12 hb_ rfl rfl rfl), Q_HBr⟩
    refine steps_cons ?_ ?_
    · rintro b a w' ⟨ha, Q_HBr⟩ hb_ hon hoff
      refine ⟨_, rfl, fun K hK => ?_⟩
      have e12 : a.tmps[12]? = some (.bool false) := by rw [ha]; exact putSel_on (e := (9, 12, .bool false)) 9 rfl rfl (hon 9 (by kernel_rfl)) rfl
      replace ha := Aside0.mk ha
      have HBr := Aside0.mk Q_HBr
      refine off_ (wanted_off rfl rfl rfl (e12.trans (by first | rfl | (simp [*]; done)))) ?_
      refine hK.out _ _ ⟨(by rw [ha.out]; exact putSel_upk 13 hb_ rfl rfl rfl), Q_HBr⟩
    refine steps_cons ?_ ?_
    · rintro b a w' ⟨ha, Q_HBr⟩ hb_ hon hoff
      refine ⟨_, rfl, fun K hK => ?_⟩
      have e12 : a.tmps[12]? = some (.bool false) := by rw [ha]; exact putSel_on (e := (9, 12, .bool false)) 9 rfl rfl (hon 9 (by kernel_rfl)) rfl
      replace ha := Aside0.mk ha
      have HBr := Aside0.mk Q_HBr
      refine off_ (wanted_off rfl rfl rfl (e12.trans (by first | rfl | (simp [*]; done)))) ?_
      refine hK.out _ _ ⟨(by rw [ha.out]; exact putSel_upk 14 hb_ rfl rfl rfl), Q_HBr⟩
    refine steps_cons ?_ ?_
    · rintro b a w' ⟨ha, Q_HBr⟩ hb_ hon hoff
      refine ⟨_, rfl, fun K hK => ?_⟩
      have e12 : a.tmps[12]? = some (.bool false) := by rw [ha]; exact putSel_on (e := (9, 12, .bool false)) 9 rfl rfl (hon 9 (by kernel_rfl)) rfl
      replace ha := Aside0.mk ha
      have HBr := Aside0.mk Q_HBr
      refine off_ (wanted_off rfl rfl rfl (e12.trans (by first | rfl | (simp [*]; done)))) ?_
      refine hK.out _ _ ⟨(by rw [ha.out]; exact putSel_upk 15 hb_ rfl rfl rfl), Q_HBr⟩
    refine steps_cons ?_ ?_
    · rintro b a w' ⟨ha, Q_HBr⟩ hb_ hon hoff
      refine ⟨_, rfl, fun K hK => ?_⟩
      have e12 : a.tmps[12]? = some (.bool false) := by rw [ha]; exact putSel_on (e := (9, 12, .bool false)) 9 rfl rfl (hon 9 (by kernel_rfl)) rfl
      have e18 : a.tmps[18]? = some (undef) := by rw [ha]; exact putSel_on (e := (15, 18, undef)) 15 rfl rfl (hon 15 (by kernel_rfl)) rfl
      replace ha := Aside0.mk ha
      have HBr := Aside0.mk Q_HBr
      refine value_ (w1 := w') (v := .bool false) (by rfl) rfl ?_ ?_
      · go_simp
        (try simp only [i64_w])
        try rfl
      refine hK.out _ _ ⟨(by rw [ha.out]; exact putSel_upk 16 hb_ rfl rfl rfl), Q_HBr⟩
    refine steps_cons ?_ ?_
    · rintro b a w' ⟨ha, Q_HBr⟩ hb_ hon hoff
      refine ⟨_, rfl, fun K hK => ?_⟩
      have e19 : a.tmps[19]? = some (.bool false) := by rw [ha]; exact putSel_on (e := (16, 19, .bool false)) 16 rfl rfl (hon 16 (by kernel_rfl)) rfl
      replace ha := Aside0.mk ha
      have HBr := Aside0.mk Q_HBr
      refine value_ (w1 := w') (v := .bool false) (by rfl) rfl ?_ ?_
      · go_simp
        (try simp only [i64_w])
        try rfl
      refine hK.out _ _ ⟨(by rw [ha.out]; exact putSel_upk 17 hb_ rfl rfl rfl), Q_HBr⟩
    refine steps_cons ?_ ?_
    · rintro b a w' ⟨ha, Q_HBr⟩ hb_ hon hoff
      refine ⟨_, rfl, fun K hK => ?_⟩
      have e20 : a.tmps[20]? = some (.bool false) := by rw [ha]; exact putSel_on (e := (17, 20, .bool false)) 17 rfl rfl (hon 17 (by kernel_rfl)) rfl
      replace ha := Aside0.mk ha
      have HBr := Aside0.mk Q_HBr
      refine off_ (wanted_off rfl rfl rfl (e20.trans (by first | rfl | (simp [*]; done)))) ?_
      refine hK.out _ _ ⟨(by rw [ha.out]; exact putSel_upk 18 hb_ rfl rfl rfl), Q_HBr⟩
    refine steps_cons ?_ ?_
    · rintro b a w' ⟨ha, Q_HBr⟩ hb_ hon hoff
      refine ⟨_, rfl, fun K hK => ?_⟩
      have e20 : a.tmps[20]? = some (.bool false) := by rw [ha]; exact putSel_on (e := (17, 20, .bool false)) 17 rfl rfl (hon 17 (by kernel_rfl)) rfl
      replace ha := Aside0.mk ha
      have HBr := Aside0.mk Q_HBr
      refine off_ (wanted_off rfl rfl rfl (e20.trans (by first | rfl | (simp [*]; done)))) ?_
      refine hK.out _ _ ⟨(by rw [ha.out]; exact putSel_upk 19 hb_ rfl rfl rfl), Q_HBr⟩
    refine steps_cons ?_ ?_
    · rintro b a w' ⟨ha, Q_HBr⟩ hb_ hon hoff
      refine ⟨_, rfl, fun K hK => ?_⟩
      have e20 : a.tmps[20]? = some (.bool false) := by rw [ha]; exact putSel_on (e := (17, 20, .bool false)) 17 rfl rfl (hon 17 (by kernel_rfl)) rfl
      replace ha := Aside0.mk ha
      have HBr := Aside0.mk Q_HBr
      refine off_ (wanted_off rfl rfl rfl (e20.trans (by first | rfl | (simp [*]; done)))) ?_
      refine hK.out _ _ ⟨(by rw [ha.out]; exact putSel_upk 20 hb_ rfl rfl rfl), Q_HBr⟩
    refine steps_cons ?_ ?_
    · rintro b a w' ⟨ha, Q_HBr⟩ hb_ hon hoff
      refine ⟨_, rfl, fun K hK => ?_⟩
      have e20 : a.tmps[20]? = some (.bool false) := by rw [ha]; exact putSel_on (e := (17, 20, .bool false)) 17 rfl rfl (hon 17 (by kernel_rfl)) rfl
      have e23 : a.tmps[23]? = some (undef) := by rw [ha]; exact putSel_on (e := (20, 23, undef)) 20 rfl rfl (hon 20 (by kernel_rfl)) rfl
      replace ha := Aside0.mk ha
      have HBr := Aside0.mk Q_HBr
      refine value_ (w1 := w') (v := .bool false) (by rfl) rfl ?_ ?_
      · go_simp
        (try simp only [i64_w])
        try rfl
      refine hK.out _ _ ⟨(by rw [ha.out]; exact putSel_upk 21 hb_ rfl rfl rfl), Q_HBr⟩
    refine steps_cons ?_ ?_
    · rintro b a w' ⟨ha, Q_HBr⟩ hb_ hon hoff
      refine ⟨_, rfl, fun K hK => ?_⟩
      have e24 : a.tmps[24]? = some (.bool false) := by rw [ha]; exact putSel_on (e := (21, 24, .bool false)) 21 rfl rfl (hon 21 (by kernel_rfl)) rfl
      replace ha := Aside0.mk ha
      have HBr := Aside0.mk Q_HBr
      refine value_ (w1 := w') (v := .bool false) (by rfl) rfl ?_ ?_
      · go_simp
        (try simp only [i64_w])
        try rfl
      refine hK.out _ _ ⟨(by rw [ha.out]; exact putSel_upk 22 hb_ rfl rfl rfl), Q_HBr⟩
    refine steps_cons ?_ ?_
    · rintro b a w' ⟨ha, Q_HBr⟩ hb_ hon hoff
      refine ⟨_, rfl, fun K hK => ?_⟩
      have e25 : a.tmps[25]? = some (.bool false) := by rw [ha]; exact putSel_on (e := (22, 25, .bool false)) 22 rfl rfl (hon 22 (by kernel_rfl)) rfl
      replace ha := Aside0.mk ha
      have HBr := Aside0.mk Q_HBr
      refine off_ (wanted_off rfl rfl rfl (e25.trans (by first | rfl | (simp [*]; done)))) ?_
      refine hK.out _ _ ⟨(by rw [ha.out]; exact putSel_upk 23 hb_ rfl rfl rfl), Q_HBr⟩
    refine steps_cons ?_ ?_
    · rintro b a w' ⟨ha, Q_HBr⟩ hb_ hon hoff
      refine ⟨_, rfl, fun K hK => ?_⟩
      have e25 : a.tmps[25]? = some (.bool false) := by rw [ha]; exact putSel_on (e := (22, 25, .bool false)) 22 rfl rfl (hon 22 (by kernel_rfl)) rfl
      replace ha := Aside0.mk ha
      have HBr := Aside0.mk Q_HBr
      refine off_ (wanted_off rfl rfl rfl (e25.trans (by first | rfl | (simp [*]; done)))) ?_
      refine hK.out _ _ ⟨(by rw [ha.out]; exact putSel_upk 24 hb_ rfl rfl rfl), Q_HBr⟩
    refine steps_cons ?_ ?_
    · rintro b a w' ⟨ha, Q_HBr⟩ hb_ hon hoff
      refine ⟨_, rfl, fun K hK => ?_⟩
      have e25 : a.tmps[25]? = some (.bool false) := by rw [ha]; exact putSel_on (e := (22, 25, .bool false)) 22 rfl rfl (hon 22 (by kernel_rfl)) rfl
      replace ha := Aside0.mk ha
      have HBr := Aside0.mk Q_HBr
      refine off_ (wanted_off rfl rfl rfl (e25.trans (by first | rfl | (simp [*]; done)))) ?_
      refine hK.out _ _ ⟨(by rw [ha.out]; exact putSel_upk 25 hb_ rfl rfl rfl), Q_HBr⟩
    refine steps_cons ?_ ?_
    · rintro b a w' ⟨ha, Q_HBr⟩ hb_ hon hoff
      refine ⟨_, rfl, fun K hK => ?_⟩
      have e25 : a.tmps[25]? = some (.bool false) := by rw [ha]; exact putSel_on (e := (22, 25, .bool false)) 22 rfl rfl (hon 22 (by kernel_rfl)) rfl
      replace ha := Aside0.mk ha
      have HBr := Aside0.mk Q_HBr
      refine off_ (wanted_off rfl rfl rfl (e25.trans (by first | rfl | (simp [*]; done)))) ?_
      refine hK.out _ _ ⟨(by rw [ha.out]; exact putSel_upk 26 hb_ rfl rfl rfl), Q_HBr⟩
    refine steps_cons ?_ ?_
    · rintro b a w' ⟨ha, Q_HBr⟩ hb_ hon hoff
      refine ⟨_, rfl, fun K hK => ?_⟩
      have e25 : a.tmps[25]? = some (.bool false) := by rw [ha]; exact putSel_on (e := (22, 25, .bool false)) 22 rfl rfl (hon 22 (by kernel_rfl)) rfl
      replace ha := Aside0.mk ha
      have HBr := Aside0.mk Q_HBr
      refine off_ (wanted_off rfl rfl rfl (e25.trans (by first | rfl | (simp [*]; done)))) ?_
      refine hK.out _ _ ⟨(by rw [ha.out]; exact putSel_upk 27 hb_ rfl rfl rfl), Q_HBr⟩
    refine steps_cons ?_ ?_
    · rintro b a w' ⟨ha, Q_HBr⟩ hb_ hon hoff
      refine ⟨_, rfl, fun K hK => ?_⟩
      have e25 : a.tmps[25]? = some (.bool false) := by rw [ha]; exact putSel_on (e := (22, 25, .bool false)) 22 rfl rfl (hon 22 (by kernel_rfl)) rfl
      have e30 : a.tmps[30]? = some (undef) := by rw [ha]; exact putSel_on (e := (27, 30, undef)) 27 rfl rfl (hon 27 (by kernel_rfl)) rfl
      replace ha := Aside0.mk ha
      have HBr := Aside0.mk Q_HBr
      refine value_ (w1 := w') (v := .bool false) (by rfl) rfl ?_ ?_
      · go_simp
        (try simp only [i64_w])
        try rfl
      refine hK.out _ _ ⟨(by rw [ha.out]; exact putSel_upk 28 hb_ rfl rfl rfl), Q_HBr⟩
    refine steps_cons ?_ ?_
    · rintro b a w' ⟨ha, Q_HBr⟩ hb_ hon hoff
      refine ⟨_, rfl, fun K hK => ?_⟩
      have e31 : a.tmps[31]? = some (.bool false) := by rw [ha]; exact putSel_on (e := (28, 31, .bool false)) 28 rfl rfl (hon 28 (by kernel_rfl)) rfl
      replace ha := Aside0.mk ha
      have HBr := Aside0.mk Q_HBr
      refine value_ (w1 := w') (v := .bool false) (by rfl) rfl ?_ ?_
      · go_simp
        (try simp only [i64_w])
        try rfl
      refine hK.out _ _ ⟨(by rw [ha.out]; exact putSel_upk 29 hb_ rfl rfl rfl), Q_HBr⟩
    refine steps_cons ?_ ?_
    · rintro b a w' ⟨ha, Q_HBr⟩ hb_ hon hoff
      refine ⟨_, rfl, fun K hK => ?_⟩
      have e32 : a.tmps[32]? = some (.bool false) := by rw [ha]; exact putSel_on (e := (29, 32, .bool false)) 29 rfl rfl (hon 29 (by kernel_rfl)) rfl
      replace ha := Aside0.mk ha
      have HBr := Aside0.mk Q_HBr
      refine off_ (wanted_off rfl rfl rfl (e32.trans (by first | rfl | (simp [*]; done)))) ?_
      refine hK.out _ _ ⟨(by rw [ha.out]; exact putSel_upk 30 hb_ rfl rfl rfl), Q_HBr⟩
    refine steps_cons ?_ ?_
    · rintro b a w' ⟨ha, Q_HBr⟩ hb_ hon hoff
      refine ⟨_, rfl, fun K hK => ?_⟩
      have e32 : a.tmps[32]? = some (.bool false) := by rw [ha]; exact putSel_on (e := (29, 32, .bool false)) 29 rfl rfl (hon 29 (by kernel_rfl)) rfl
      replace ha := Aside0.mk ha
      have HBr := Aside0.mk Q_HBr
      refine off_ (wanted_off rfl rfl rfl (e32.trans (by first | rfl | (simp [*]; done)))) ?_
      refine hK.out _ _ ⟨(by rw [ha.out]; exact putSel_upk 31 hb_ rfl rfl rfl), Q_HBr⟩
    refine steps_cons ?_ ?_
    · rintro b a w' ⟨ha, Q_HBr⟩ hb_ hon hoff
      refine ⟨_, rfl, fun K hK => ?_⟩
      have e32 : a.tmps[32]? = some (.bool false) := by rw [ha]; exact putSel_on (e := (29, 32, .bool false)) 29 rfl rfl (hon 29 (by kernel_rfl)) rfl
      replace ha := Aside0.mk ha
      have HBr := Aside0.mk Q_HBr
      refine off_ (wanted_off rfl rfl rfl (e32.trans (by first | rfl | (simp [*]; done)))) ?_
      refine hK.out _ _ ⟨(by rw [ha.out]; exact putSel_upk 32 hb_ rfl rfl rfl), Q_HBr⟩
    refine steps_cons ?_ ?_
    · rintro b a w' ⟨ha, Q_HBr⟩ hb_ hon hoff
      refine ⟨_, rfl, fun K hK => ?_⟩
      have e32 : a.tmps[32]? = some (.bool false) := by rw [ha]; exact putSel_on (e := (29, 32, .bool false)) 29 rfl rfl (hon 29 (by kernel_rfl)) rfl
      have e35 : a.tmps[35]? = some (undef) := by rw [ha]; exact putSel_on (e := (32, 35, undef)) 32 rfl rfl (hon 32 (by kernel_rfl)) rfl
      replace ha := Aside0.mk ha
      have HBr := Aside0.mk Q_HBr
      refine value_ (w1 := w') (v := .bool false) (by rfl) rfl ?_ ?_
      · go_simp
        (try simp only [i64_w])
        try rfl
      refine hK.out _ _ ⟨(by rw [ha.out]; exact putSel_upk 33 hb_ rfl rfl rfl), Q_HBr⟩
    refine steps_cons ?_ ?_
    · rintro b a w' ⟨ha, Q_HBr⟩ hb_ hon hoff
      refine ⟨_, rfl, fun K hK => ?_⟩
      have e36 : a.tmps[36]? = some (.bool false) := by rw [ha]; exact putSel_on (e := (33, 36, .bool false)) 33 rfl rfl (hon 33 (by kernel_rfl)) rfl
      replace ha := Aside0.mk ha
      have HBr := Aside0.mk Q_HBr
      refine value_ (w1 := w') (v := .bool false) (by rfl) rfl ?_ ?_
      · go_simp
        (try simp only [i64_w])
        try rfl
      refine hK.out _ _ ⟨(by rw [ha.out]; exact putSel_upk 34 hb_ rfl rfl rfl), Q_HBr⟩
    exact steps_nil
  · rintro b a w' hall ⟨ha, Q_HBr⟩
    clear HBr
    have hb0_ := hall 0 (by kernel_rfl)
    have hb1_ := hall 1 (by kernel_rfl)
    have hb2_ := hall 2 (by kernel_rfl)
    have hb3_ := hall 3 (by kernel_rfl)
    have hb4_ := hall 4 (by kernel_rfl)
    have hb5_ := hall 5 (by kernel_rfl)
    have hb6_ := hall 6 (by kernel_rfl)
    have hb7_ := hall 7 (by kernel_rfl)
    have hb8_ := hall 8 (by kernel_rfl)
    have hb9_ := hall 9 (by kernel_rfl)
    have hb10_ := hall 10 (by kernel_rfl)
    have hb11_ := hall 11 (by kernel_rfl)
    have hb12_ := hall 12 (by kernel_rfl)
    have hb13_ := hall 13 (by kernel_rfl)
    have hb14_ := hall 14 (by kernel_rfl)
    have hb15_ := hall 15 (by kernel_rfl)
    have hb16_ := hall 16 (by kernel_rfl)
    have hb17_ := hall 17 (by kernel_rfl)
    have hb18_ := hall 18 (by kernel_rfl)
    have hb19_ := hall 19 (by kernel_rfl)
    have hb20_ := hall 20 (by kernel_rfl)
    have hb21_ := hall 21 (by kernel_rfl)
    have hb22_ := hall 22 (by kernel_rfl)
    have hb23_ := hall 23 (by kernel_rfl)
    have hb24_ := hall 24 (by kernel_rfl)
    have hb25_ := hall 25 (by kernel_rfl)
    have hb26_ := hall 26 (by kernel_rfl)
    have hb27_ := hall 27 (by kernel_rfl)
    have hb28_ := hall 28 (by kernel_rfl)
    have hb29_ := hall 29 (by kernel_rfl)
    have hb30_ := hall 30 (by kernel_rfl)
    have hb31_ := hall 31 (by kernel_rfl)
    have hb32_ := hall 32 (by kernel_rfl)
    have hb33_ := hall 33 (by kernel_rfl)
    have hb34_ := hall 34 (by kernel_rfl)
    subst ha
    simp only [putSel, hb0_, hb1_, hb2_, hb3_, hb4_, hb5_, hb6_, hb7_, hb8_, hb9_, hb10_, hb11_, hb12_, hb13_, hb14_, hb15_, hb16_, hb17_, hb18_, hb19_, hb20_, hb21_, hb22_, hb23_, hb24_, hb25_, hb26_, hb27_, hb28_, hb29_, hb30_, hb31_, hb32_, hb33_, hb34_, if_true, Act.put, List.setIfInBounds_toArray, List.set_cons_zero, List.set_cons_succ]
    have HBr := Aside0.mk Q_HBr
    clear Q_HBr
    clear hall hb0_ hb1_ hb2_ hb3_ hb4_ hb5_ hb6_ hb7_ hb8_ hb9_ hb10_ hb11_ hb12_ hb13_ hb14_ hb15_ hb16_ hb17_ hb18_ hb19_ hb20_ hb21_ hb22_ hb23_ hb24_ hb25_ hb26_ hb27_ hb28_ hb29_ hb30_ hb31_ hb32_ hb33_ hb34_
    go_wp2
    go_ret
    exact ⟨rfl, below_step hb0 HBr.out⟩
end Go.Proofs.Ytcnhjbpgjemnhaa.Sv
