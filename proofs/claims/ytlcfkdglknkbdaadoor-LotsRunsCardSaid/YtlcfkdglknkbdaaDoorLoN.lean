/- lots: LotsRuns. (Partly printed by gen_runs.py.) -/
import Derived.Test.YtlcfkdglknkbdaaDoorLoM
namespace Go.Proofs.YtlcfkdglknkbdaaDoor.Lo
open Go.RowKit Go.Proofs.YtlcfkdglknkbdaaDoorW.PrintWords Go.Proofs.YtlcfkdglknkbdaaDoorW.PrintLast Go.Proofs.YtlcfkdglknkbdaaDoorW.PrintMore Go.Proofs.YtlcfkdglknkbdaaDoor.X
set_option linter.unusedVariables false
set_option linter.unusedSimpArgs false
def runs6.T6 : Bool × List (List Nat × List Nat) := (true, [([], []), ([0], [0]), ([1], [1]), ([2, 1], [2]), ([3], [3]), ([3], [3]), ([5, 3, 3], [3, 5]), ([4, 6, 6, 3], [3, 4, 6]), ([7, 3], [3, 7]), ([3, 8], [3, 8]), ([9, 7], [9]), ([10], [10]), ([11, 10], [10, 11]), ([12, 10, 10], [10, 12]), ([13, 10], [10, 13]), ([10, 14], [10, 14]), ([15, 13], [15]), ([16], [16]), ([17, 16], [16, 17]), ([18, 16], [16, 18]), ([19, 16], [16, 19]), ([16, 20], [16, 20]), ([21, 16], [21]), ([22], [22]), ([23, 22], [22, 23]), ([24, 22], [22, 24]), ([25, 22], [22, 25]), ([22, 26], [22, 26]), ([27, 22], [27]), ([28], [28]), ([29, 28], [28, 29]), ([30, 28], [28, 30]), ([28], [28]), ([32, 28], [28, 32]), ([31, 33, 28], [28, 31, 33]), ([28, 34], [28, 34])])
def runs6.B6 : List Nat := [0, 1, 3, 7, 15, 15, 47, 127, 255, 511, 1023, 2047, 4095, 8191, 16383, 32767, 65535, 131071, 262143, 524287, 1048575, 2097151, 4194303, 8388607, 16777215, 33554431, 67108863, 134217727, 268435455, 536870911, 1073741823, 2147483647, 536870911, 4831838207, 17179869183, 34359738367]
theorem runs6.tab6 : rtab .any (opsOf Tryd.f5 6) = runs6.T6 := by kernel_rfl
theorem runs6.bits6 : waitsOk runs6.T6.2 runs6.B6 = true := by kernel_rfl
def runs11.T11 : Bool × List (List Nat × List Nat) := (true, [([], []), ([0], [0]), ([1], [1]), ([], []), ([3], [3]), ([], []), ([4, 5], [4, 5]), ([6], [6]), ([7], [7]), ([2, 8], [2, 8]), ([9], [9]), ([10, 9], [10]), ([11], [11]), ([12, 11], [11, 12]), ([11], [11]), ([13, 14, 11], [11, 13, 14]), ([15, 11], [11, 15]), ([16, 11], [11, 16]), ([17, 11], [11, 17]), ([11, 18], [11, 18]), ([19, 11], [19]), ([20], [20]), ([21, 20], [20, 21]), ([20], [20]), ([22, 23, 20], [20, 22, 23]), ([24, 20], [20, 24]), ([25, 20], [20, 25]), ([20], [20]), ([27, 20], [20, 27]), ([28, 20], [20, 28]), ([26, 29, 20], [20, 26, 29]), ([20, 30], [20, 30])])
def runs11.B11 : List Nat := [0, 1, 3, 0, 8, 0, 56, 120, 248, 511, 1023, 2047, 4095, 8191, 4095, 32767, 65535, 131071, 262143, 524287, 1048575, 2097151, 4194303, 2097151, 16777215, 33554431, 67108863, 2097151, 136314879, 404750335, 1073741823, 2147483647]
theorem runs11.tab11 : rtab .any (opsOf Tryd.f5 11) = runs11.T11 := by kernel_rfl
theorem runs11.bits11 : waitsOk runs11.T11.2 runs11.B11 = true := by kernel_rfl
set_option maxHeartbeats 4000000 in
set_option maxRecDepth 100000 in
theorem runs_walk (s : ByteArray) (aA : Addr) (W : World) (hs : s.size ≤ maxLen) (hA : W.cell? gArg = some (Sent aA)) :
    Calls Tryd.prog 5 #[.string s] W fun e w' => e = .returned (.bool true) ∧ Below W.heap.size W w' := by
  have h1 := Tryd.underlying24
  have h2 := Tryd.underlying28
  have h3 := Tryd.underlying37
  have h4 := Tryd.underlying35
  obtain ⟨w, hw⟩ : ∃ w, w = W := ⟨_, rfl⟩
  rw [← hw] at hA ⊢
  clear hw
  have HA := Aside0.mk hA
  clear hA
  go_enter Tryd.func5, Tryd.ntmps5
  go_wp2_with fail
  refine (awake_c aA w HA.out).mono ?_
  rintro e w1 ⟨rfl, hb⟩
  have HB := Aside0.mk hb
  clear hb
  by_cases hsz : s.size ≤ 16384
  · have hz : ¬ (s.size : Int) > 16384 := by omega
    go_wp2_with fail
    obtain ⟨X, hX⟩ : ∃ X, X = dec s := ⟨_, rfl⟩
    obtain ⟨n5, h5⟩ : ∃ n, n = X.f1.length := ⟨_, rfl⟩
    obtain ⟨n6, h6⟩ : ∃ n, n = X.f2.length := ⟨_, rfl⟩
    have b5 : n5 ≤ 64 := by rw [h5, hX, dec_n5]; exact cnt_le s
    have b6 : n6 ≤ 4096 ∧ n6 ≤ s.size := by rw [h6, hX, dec_n6]; exact npick_le s
    have HG : Aside0 (goodB X = true) := Aside0.mk (by rw [hX]; exact dec_good s)
    have HOK : Aside0 (okConf X.f0 = true) := Aside0.mk (by rw [hX]; exact cfg_ok s)
    have HSZ : Aside0 (s.size ≤ 40000) := Aside0.mk (by omega)
    have HX := Aside0.mk hX
    have HN5 := Aside0.mk h5
    have HN6 := Aside0.mk h6
    clear hX h5 h6
    refine (dec_x s HSZ.out X HX.out n5 n6 HN5.out HN6.out _).mono ?_
    rintro e w2 ⟨A5, c5, A6, c6, rfl, hS, hb⟩
    have hb1 := below_alloc (Below.refl w2.heap.size w2) (.cells #[.int .i64 X.f0.f0, .int .i64 X.f0.f1, .int .i64 X.f0.f2, .int .i64 X.f0.f3, .int .i64 X.f0.f4, .slice A5 n5 c5, .slice A6 n6 c6] 28)
    have hF := blk_new w2 (.cells #[.int .i64 X.f0.f0, .int .i64 X.f0.f1, .int .i64 X.f0.f2, .int .i64 X.f0.f3, .int .i64 X.f0.f4, .slice A5 n5 c5, .slice A6 n6 c6] 28)
    replace HB := Aside0.mk (below_step (below_step HB.out hb) hb1)
    have FS := Aside0.mk (SV_below hS hb1)
    have FA := Aside0.mk (pw_cell_below HB.out HA.out)
    have FX := Aside0.mk hF
    have ZA : Aside0 (¬ (64 : Int) < (n5 : Int)) := Aside0.mk (by omega)
    have ZB : Aside0 (¬ (4096 : Int) < (n6 : Int)) := Aside0.mk (by omega)
    have ZC : Aside0 (n6 ≤ s.size) := Aside0.mk (by omega)
    clear hb hb1 hS hF
    go_wp2
    obtain ⟨w3, hw3⟩ : ∃ z, z = w2.alloc (.cells #[.int .i64 X.f0.f0, .int .i64 X.f0.f1, .int .i64 X.f0.f2, .int .i64 X.f0.f3, .int .i64 X.f0.f4, .slice A5 n5 c5, .slice A6 n6 c6] 28) := ⟨_, rfl⟩
    rw [← hw3] at HB FS FA FX ⊢
    obtain ⟨xb, hxb⟩ : ∃ z, z = w2.heap.size := ⟨_, rfl⟩
    rw [← hxb] at FX ⊢
    clear hw3 hxb hz b6
    refine start_ (n := 36) (S := fun w' => True) (ds := []) #[false, false, false, false, false, false, false, false, false, false, false, false, false, false, false, false, false, false, false, false, false, false, false, false, false, false, false, false, false, false, false, false, false, false, false, false] (by kernel_rfl) rfl rfl trivial (fun hHeld => ?_)
    refine with_tabW runs6.tab6 runs6.bits6 (fun HT_ HW_ => ?_)
    have HBr := Aside0.mk (below_drew1 HB.out)
    refine inv_at [0, 1, 2, 3, 4, 5, 6, 7, 8, 9, 10, 11, 12, 13, 14, 15, 16, 17, 18, 19, 20, 21, 22, 23, 24, 25, 26, 27, 28, 29, 30, 31, 32, 33, 34, 35] (fun a0_ b a w' => ∃ (B5_ : Option Addr) (d5_ : Nat) (B6_ : Option Addr) (d6_ : Nat) (m6_ : Value), a = putSel a0_ b [(0, 12, .agg #[.int .i64 X.f0.f0, .int .i64 X.f0.f1, .int .i64 X.f0.f2, .int .i64 X.f0.f3, .int .i64 X.f0.f4, .slice A5 n5 c5, .slice A6 n6 c6]), (1, 13, .bool true), (2, 14, .bool false), (3, 15, .bool false), (4, 16, .agg #[.int .i64 X.f0.f0, .int .i64 X.f0.f1, .int .i64 X.f0.f2, .int .i64 X.f0.f3, .int .i64 X.f0.f4, .slice A5 n5 c5, .slice A6 n6 c6]), (5, 17, .string s), (6, 18, m6_), (7, 19, .bool true), (8, 20, .bool false), (9, 21, .bool false), (10, 22, .bool false), (11, 23, .pointer (some ⟨xb, 0, none⟩)), (12, 24, .agg #[.int .i64 X.f0.f0, .int .i64 X.f0.f1, .int .i64 X.f0.f2, .int .i64 X.f0.f3, .int .i64 X.f0.f4]), (13, 25, .bool true), (14, 26, .bool false), (15, 27, .bool false), (16, 28, .bool false), (17, 29, .pointer (some ⟨xb, 5, none⟩)), (18, 30, .slice A5 n5 c5), (19, 31, .int .i64 (n5 : Int)), (20, 32, .bool false), (21, 33, .bool false), (22, 34, .bool false), (23, 35, .pointer (some ⟨xb, 6, none⟩)), (24, 36, .slice A6 n6 c6), (25, 37, .int .i64 (n6 : Int)), (26, 38, .bool false), (27, 39, .bool false), (28, 40, .bool false), (29, 41, .pointer (some ⟨xb, 6, none⟩)), (30, 42, .slice A6 n6 c6), (31, 43, .int .i64 (n6 : Int)), (32, 44, .string s), (33, 45, .int .i64 (s.size : Int)), (34, 46, .bool false), (35, 47, .bool false)] ∧ (Below w.heap.size w w') ∧ (w'.heap[xb]? = some (.cells #[.int .i64 X.f0.f0, .int .i64 X.f0.f1, .int .i64 X.f0.f2, .int .i64 X.f0.f3, .int .i64 X.f0.f4, .slice A5 n5 c5, .slice A6 n6 c6] 28 (0, 0))) ∧ (SV w' X (.agg #[.int .i64 X.f0.f0, .int .i64 X.f0.f1, .int .i64 X.f0.f2, .int .i64 X.f0.f3, .int .i64 X.f0.f4, .slice A5 n5 c5, .slice A6 n6 c6])) ∧ (w'.cell? gArg = some (Sent aA)) ∧ (b 6 = true → SV w' X (.agg #[.int .i64 X.f0.f0, .int .i64 X.f0.f1, .int .i64 X.f0.f2, .int .i64 X.f0.f3, .int .i64 X.f0.f4, .slice B5_ n5 d5_, .slice B6_ n6 d6_])) ∧ (b 6 = true → (m6_ : Value) = .agg #[.int .i64 X.f0.f0, .int .i64 X.f0.f1, .int .i64 X.f0.f2, .int .i64 X.f0.f3, .int .i64 X.f0.f4, .slice B5_ n5 d5_, .slice B6_ n6 d6_])) HT_.out HW_.out (by kernel_rfl) (by kernel_rfl) ?_ ?_ ?_
    · exact ⟨none, 0, none, 0, .bool false, by simp only [putSel, Bool.false_eq_true, if_false], HBr.out, FX.out, SV_below FS.out (below_drew (Below.refl _ _)), pw_cell_below (below_drew (Below.refl _ _)) FA.out, fun h_ => absurd h_ (by decide), fun h_ => absurd h_ (by decide)⟩
    · skip
      clear FA FS FX HBr
      refine steps_cons ?_ ?_
      · rintro b a w' ⟨B5_, d5_, B6_, d6_, m6_, ha, Q_HBr, Q_FX, Q_FS, Q_FA, Q_FY, Q_X6_⟩ hb_ hon hoff
        refine ⟨_, rfl, fun K hK => ?_⟩
        have e3 : a.tmps[3]? = some (.pointer (some ⟨xb, 0, none⟩)) := by rw [ha]; exact (putSel_off rfl).trans rfl
        replace ha := Aside0.mk ha
        have HBr := Aside0.mk Q_HBr
        have FX := Aside0.mk Q_FX
        have FS := Aside0.mk Q_FS
        have FA := Aside0.mk Q_FA
        have z0_ : w'.cell? ⟨xb, 0, none⟩ = some (.int .i64 X.f0.f0) := (blk_cell (FX.out) 0).trans rfl
        have z1_ : w'.cell? ⟨xb, 1, none⟩ = some (.int .i64 X.f0.f1) := (blk_cell (FX.out) 1).trans rfl
        have z2_ : w'.cell? ⟨xb, 2, none⟩ = some (.int .i64 X.f0.f2) := (blk_cell (FX.out) 2).trans rfl
        have z3_ : w'.cell? ⟨xb, 3, none⟩ = some (.int .i64 X.f0.f3) := (blk_cell (FX.out) 3).trans rfl
        have z4_ : w'.cell? ⟨xb, 4, none⟩ = some (.int .i64 X.f0.f4) := (blk_cell (FX.out) 4).trans rfl
        have z5_ : w'.cell? ⟨xb, 5, none⟩ = some (.slice A5 n5 c5) := (blk_cell (FX.out) 5).trans rfl
        have z6_ : w'.cell? ⟨xb, 6, none⟩ = some (.slice A6 n6 c6) := (blk_cell (FX.out) 6).trans rfl
        refine value_ (w1 := w') (v := .agg #[.int .i64 X.f0.f0, .int .i64 X.f0.f1, .int .i64 X.f0.f2, .int .i64 X.f0.f3, .int .i64 X.f0.f4, .slice A5 n5 c5, .slice A6 n6 c6]) ?cA ?cB ?_ ?_
        case cA => rfl
        case cB => rfl
        · go_simp
          (try simp only [i64_w])
          try rfl
        refine hK.out _ _ ⟨B5_, d5_, B6_, d6_, m6_, (by rw [ha.out]; exact putSel_upk 0 hb_ rfl rfl rfl), Q_HBr, Q_FX, Q_FS, Q_FA, fun h0_ => absurd ((hoff 6 (by kernel_rfl)).symm.trans h0_) (by decide), fun h0_ => absurd ((hoff 6 (by kernel_rfl)).symm.trans h0_) (by decide)⟩
      refine steps_cons ?_ ?_
      · rintro b a w' ⟨B5_, d5_, B6_, d6_, m6_, ha, Q_HBr, Q_FX, Q_FS, Q_FA, Q_FY, Q_X6_⟩ hb_ hon hoff
        refine ⟨_, rfl, fun K hK => ?_⟩
        have e12 : a.tmps[12]? = some (.agg #[.int .i64 X.f0.f0, .int .i64 X.f0.f1, .int .i64 X.f0.f2, .int .i64 X.f0.f3, .int .i64 X.f0.f4, .slice A5 n5 c5, .slice A6 n6 c6]) := by rw [ha]; exact putSel_on (e := (0, 12, .agg #[.int .i64 X.f0.f0, .int .i64 X.f0.f1, .int .i64 X.f0.f2, .int .i64 X.f0.f3, .int .i64 X.f0.f4, .slice A5 n5 c5, .slice A6 n6 c6])) 0 rfl rfl (hon 0 (by kernel_rfl)) rfl
        replace ha := Aside0.mk ha
        have HBr := Aside0.mk Q_HBr
        have FX := Aside0.mk Q_FX
        have FS := Aside0.mk Q_FS
        have FA := Aside0.mk Q_FA
        refine goes_ Tryd.func11 (by kernel_rfl) rfl #[.agg #[.int .i64 X.f0.f0, .int .i64 X.f0.f1, .int .i64 X.f0.f2, .int .i64 X.f0.f3, .int .i64 X.f0.f4, .slice A5 n5 c5, .slice A6 n6 c6]] (by rfl) rfl rfl (by first | (simp only [List.map_toArray, List.map_cons, List.map_nil, Act.eval, Array.getD_eq_getD_getElem?, Option.getD_some, e12]; done) | (simp only [List.map_toArray, List.map_cons, List.map_nil, Act.eval, Array.getD_eq_getD_getElem?, Option.getD_some, e12]; rfl)) ?_
        refine (good_c FS.out aA FA.out).mono ?_
        rintro e w1 ⟨hr_, hb1⟩
        rw [HG.out] at hr_
        subst hr_
        refine ⟨_, rfl, ?_⟩
        refine hK.out _ _ ⟨B5_, d5_, B6_, d6_, m6_, (by rw [ha.out]; exact putSel_upk 1 hb_ rfl rfl rfl), below_step HBr.out hb1, blk_below hb1 FX.out, SV_below FS.out hb1, pw_cell_below hb1 FA.out, fun h0_ => absurd ((hoff 6 (by kernel_rfl)).symm.trans h0_) (by decide), fun h0_ => absurd ((hoff 6 (by kernel_rfl)).symm.trans h0_) (by decide)⟩
      refine steps_cons ?_ ?_
      · rintro b a w' ⟨B5_, d5_, B6_, d6_, m6_, ha, Q_HBr, Q_FX, Q_FS, Q_FA, Q_FY, Q_X6_⟩ hb_ hon hoff
        refine ⟨_, rfl, fun K hK => ?_⟩
        have e13 : a.tmps[13]? = some (.bool true) := by rw [ha]; exact putSel_on (e := (1, 13, .bool true)) 1 rfl rfl (hon 1 (by kernel_rfl)) rfl
        replace ha := Aside0.mk ha
        have HBr := Aside0.mk Q_HBr
        have FX := Aside0.mk Q_FX
        have FS := Aside0.mk Q_FS
        have FA := Aside0.mk Q_FA
        refine value_ (w1 := w') (v := .bool false) ?cA ?cB ?_ ?_
        case cA => rfl
        case cB => rfl
        · go_simp
          (try simp only [i64_w])
          try rfl
        refine hK.out _ _ ⟨B5_, d5_, B6_, d6_, m6_, (by rw [ha.out]; exact putSel_upk 2 hb_ rfl rfl rfl), Q_HBr, Q_FX, Q_FS, Q_FA, fun h0_ => absurd ((hoff 6 (by kernel_rfl)).symm.trans h0_) (by decide), fun h0_ => absurd ((hoff 6 (by kernel_rfl)).symm.trans h0_) (by decide)⟩
      refine steps_cons ?_ ?_
      · rintro b a w' ⟨B5_, d5_, B6_, d6_, m6_, ha, Q_HBr, Q_FX, Q_FS, Q_FA, Q_FY, Q_X6_⟩ hb_ hon hoff
        refine ⟨_, rfl, fun K hK => ?_⟩
        have e14 : a.tmps[14]? = some (.bool false) := by rw [ha]; exact putSel_on (e := (2, 14, .bool false)) 2 rfl rfl (hon 2 (by kernel_rfl)) rfl
        replace ha := Aside0.mk ha
        have HBr := Aside0.mk Q_HBr
        have FX := Aside0.mk Q_FX
        have FS := Aside0.mk Q_FS
        have FA := Aside0.mk Q_FA
        refine value_ (w1 := w') (v := .bool false) ?cA ?cB ?_ ?_
        case cA => rfl
        case cB => rfl
        · go_simp
          (try simp only [i64_w])
          try rfl
        refine hK.out _ _ ⟨B5_, d5_, B6_, d6_, m6_, (by rw [ha.out]; exact putSel_upk 3 hb_ rfl rfl rfl), Q_HBr, Q_FX, Q_FS, Q_FA, fun h0_ => absurd ((hoff 6 (by kernel_rfl)).symm.trans h0_) (by decide), fun h0_ => absurd ((hoff 6 (by kernel_rfl)).symm.trans h0_) (by decide)⟩
      refine steps_cons ?_ ?_
      · rintro b a w' ⟨B5_, d5_, B6_, d6_, m6_, ha, Q_HBr, Q_FX, Q_FS, Q_FA, Q_FY, Q_X6_⟩ hb_ hon hoff
        refine ⟨_, rfl, fun K hK => ?_⟩
        have e3 : a.tmps[3]? = some (.pointer (some ⟨xb, 0, none⟩)) := by rw [ha]; exact (putSel_off rfl).trans rfl
        have e15 : a.tmps[15]? = some (.bool false) := by rw [ha]; exact putSel_on (e := (3, 15, .bool false)) 3 rfl rfl (hon 3 (by kernel_rfl)) rfl
        replace ha := Aside0.mk ha
        have HBr := Aside0.mk Q_HBr
        have FX := Aside0.mk Q_FX
        have FS := Aside0.mk Q_FS
        have FA := Aside0.mk Q_FA
        have z0_ : w'.cell? ⟨xb, 0, none⟩ = some (.int .i64 X.f0.f0) := (blk_cell (FX.out) 0).trans rfl
        have z1_ : w'.cell? ⟨xb, 1, none⟩ = some (.int .i64 X.f0.f1) := (blk_cell (FX.out) 1).trans rfl
        have z2_ : w'.cell? ⟨xb, 2, none⟩ = some (.int .i64 X.f0.f2) := (blk_cell (FX.out) 2).trans rfl
        have z3_ : w'.cell? ⟨xb, 3, none⟩ = some (.int .i64 X.f0.f3) := (blk_cell (FX.out) 3).trans rfl
        have z4_ : w'.cell? ⟨xb, 4, none⟩ = some (.int .i64 X.f0.f4) := (blk_cell (FX.out) 4).trans rfl
        have z5_ : w'.cell? ⟨xb, 5, none⟩ = some (.slice A5 n5 c5) := (blk_cell (FX.out) 5).trans rfl
        have z6_ : w'.cell? ⟨xb, 6, none⟩ = some (.slice A6 n6 c6) := (blk_cell (FX.out) 6).trans rfl
        refine value_ (w1 := w') (v := .agg #[.int .i64 X.f0.f0, .int .i64 X.f0.f1, .int .i64 X.f0.f2, .int .i64 X.f0.f3, .int .i64 X.f0.f4, .slice A5 n5 c5, .slice A6 n6 c6]) (wanted_on rfl rfl rfl (e15.trans (by first | rfl | (simp [*]; done)))) rfl ?_ ?_
        · go_simp
          (try simp only [i64_w])
          try rfl
        refine hK.out _ _ ⟨B5_, d5_, B6_, d6_, m6_, (by rw [ha.out]; exact putSel_upk 4 hb_ rfl rfl rfl), Q_HBr, Q_FX, Q_FS, Q_FA, Q_FY, Q_X6_⟩
      refine steps_cons ?_ ?_
      · rintro b a w' ⟨B5_, d5_, B6_, d6_, m6_, ha, Q_HBr, Q_FX, Q_FS, Q_FA, Q_FY, Q_X6_⟩ hb_ hon hoff
        refine ⟨_, rfl, fun K hK => ?_⟩
        have e0 : a.tmps[0]? = some (.string s) := by rw [ha]; exact (putSel_off rfl).trans rfl
        have e15 : a.tmps[15]? = some (.bool false) := by rw [ha]; exact putSel_on (e := (3, 15, .bool false)) 3 rfl rfl (hon 3 (by kernel_rfl)) rfl
        replace ha := Aside0.mk ha
        have HBr := Aside0.mk Q_HBr
        have FX := Aside0.mk Q_FX
        have FS := Aside0.mk Q_FS
        have FA := Aside0.mk Q_FA
        refine value_ (w1 := w') (v := .string s) (wanted_on rfl rfl rfl (e15.trans (by first | rfl | (simp [*]; done)))) rfl ?_ ?_
        · go_simp
          (try simp only [i64_w])
          try rfl
        refine hK.out _ _ ⟨B5_, d5_, B6_, d6_, m6_, (by rw [ha.out]; exact putSel_upk 5 hb_ rfl rfl rfl), Q_HBr, Q_FX, Q_FS, Q_FA, fun h0_ => absurd ((hoff 6 (by kernel_rfl)).symm.trans h0_) (by decide), fun h0_ => absurd ((hoff 6 (by kernel_rfl)).symm.trans h0_) (by decide)⟩
      refine steps_cons ?_ ?_
      · rintro b a w' ⟨B5_, d5_, B6_, d6_, m6_, ha, Q_HBr, Q_FX, Q_FS, Q_FA, Q_FY, Q_X6_⟩ hb_ hon hoff
        refine ⟨_, rfl, fun K hK => ?_⟩
        have e17 : a.tmps[17]? = some (.string s) := by rw [ha]; exact putSel_on (e := (5, 17, .string s)) 5 rfl rfl (hon 5 (by kernel_rfl)) rfl
        have e15 : a.tmps[15]? = some (.bool false) := by rw [ha]; exact putSel_on (e := (3, 15, .bool false)) 3 rfl rfl (hon 3 (by kernel_rfl)) rfl
        replace ha := Aside0.mk ha
        have HBr := Aside0.mk Q_HBr
        have FX := Aside0.mk Q_FX
        have FS := Aside0.mk Q_FS
        have FA := Aside0.mk Q_FA
        refine goes_ Tryd.func9 (by kernel_rfl) rfl #[.string s] (wanted_on rfl rfl rfl (e15.trans (by first | rfl | (simp [*]; done)))) rfl rfl (by first | (simp only [List.map_toArray, List.map_cons, List.map_nil, Act.eval, Array.getD_eq_getD_getElem?, Option.getD_some, e17, e15]; done) | (simp only [List.map_toArray, List.map_cons, List.map_nil, Act.eval, Array.getD_eq_getD_getElem?, Option.getD_some, e17, e15]; rfl)) ?_
        refine (dec_x s HSZ.out X HX.out n5 n6 HN5.out HN6.out w').mono ?_
        rintro e w1 ⟨b5z_, d5z_, b6z_, d6z_, rfl, hS_, hb1⟩
        refine ⟨_, rfl, ?_⟩
        refine hK.out _ _ ⟨b5z_, d5z_, b6z_, d6z_, (.agg #[.int .i64 X.f0.f0, .int .i64 X.f0.f1, .int .i64 X.f0.f2, .int .i64 X.f0.f3, .int .i64 X.f0.f4, .slice b5z_ n5 d5z_, .slice b6z_ n6 d6z_]), (by rw [ha.out]; exact putSel_upk 6 hb_ rfl rfl rfl), below_step HBr.out hb1, blk_below hb1 FX.out, SV_below FS.out hb1, pw_cell_below hb1 FA.out, fun _ => hS_, fun _ => rfl⟩
      refine steps_cons ?_ ?_
      · rintro b a w' ⟨B5_, d5_, B6_, d6_, m6_, ha, Q_HBr, Q_FX, Q_FS, Q_FA, Q_FY, Q_X6_⟩ hb_ hon hoff
        refine ⟨_, rfl, fun K hK => ?_⟩
        have e16 : a.tmps[16]? = some (.agg #[.int .i64 X.f0.f0, .int .i64 X.f0.f1, .int .i64 X.f0.f2, .int .i64 X.f0.f3, .int .i64 X.f0.f4, .slice A5 n5 c5, .slice A6 n6 c6]) := by rw [ha]; exact putSel_on (e := (4, 16, .agg #[.int .i64 X.f0.f0, .int .i64 X.f0.f1, .int .i64 X.f0.f2, .int .i64 X.f0.f3, .int .i64 X.f0.f4, .slice A5 n5 c5, .slice A6 n6 c6])) 4 rfl rfl (hon 4 (by kernel_rfl)) rfl
        have e18 : a.tmps[18]? = some (m6_) := by rw [ha]; exact putSel_on (e := (6, 18, m6_)) 6 rfl rfl (hon 6 (by kernel_rfl)) rfl
        rw [Q_X6_ (hon 6 (by kernel_rfl))] at e18
        have e15 : a.tmps[15]? = some (.bool false) := by rw [ha]; exact putSel_on (e := (3, 15, .bool false)) 3 rfl rfl (hon 3 (by kernel_rfl)) rfl
        replace ha := Aside0.mk ha
        have HBr := Aside0.mk Q_HBr
        have FX := Aside0.mk Q_FX
        have FS := Aside0.mk Q_FS
        have FA := Aside0.mk Q_FA
        have FY := Aside0.mk (Q_FY (hon 6 (by kernel_rfl)))
        refine goes_ Tryd.func12 (by kernel_rfl) rfl #[.agg #[.int .i64 X.f0.f0, .int .i64 X.f0.f1, .int .i64 X.f0.f2, .int .i64 X.f0.f3, .int .i64 X.f0.f4, .slice A5 n5 c5, .slice A6 n6 c6], .agg #[.int .i64 X.f0.f0, .int .i64 X.f0.f1, .int .i64 X.f0.f2, .int .i64 X.f0.f3, .int .i64 X.f0.f4, .slice B5_ n5 d5_, .slice B6_ n6 d6_]] (wanted_on rfl rfl rfl (e15.trans (by first | rfl | (simp [*]; done)))) rfl rfl (by first | (simp only [List.map_toArray, List.map_cons, List.map_nil, Act.eval, Array.getD_eq_getD_getElem?, Option.getD_some, e16, e18, e15]; done) | (simp only [List.map_toArray, List.map_cons, List.map_nil, Act.eval, Array.getD_eq_getD_getElem?, Option.getD_some, e16, e18, e15]; rfl)) ?_
        refine (same_c FS.out FY.out).mono ?_
        rintro e w1 ⟨hr_, hb1⟩
        rw [sameB_self] at hr_
        subst hr_
        refine ⟨_, rfl, ?_⟩
        refine hK.out _ _ ⟨B5_, d5_, B6_, d6_, m6_, (by rw [ha.out]; exact putSel_upk 7 hb_ rfl rfl rfl), below_step HBr.out hb1, blk_below hb1 FX.out, SV_below FS.out hb1, pw_cell_below hb1 FA.out, fun _ => SV_below FY.out hb1, Q_X6_⟩
      refine steps_cons ?_ ?_
      · rintro b a w' ⟨B5_, d5_, B6_, d6_, m6_, ha, Q_HBr, Q_FX, Q_FS, Q_FA, Q_FY, Q_X6_⟩ hb_ hon hoff
        refine ⟨_, rfl, fun K hK => ?_⟩
        have e19 : a.tmps[19]? = some (.bool true) := by rw [ha]; exact putSel_on (e := (7, 19, .bool true)) 7 rfl rfl (hon 7 (by kernel_rfl)) rfl
        have e15 : a.tmps[15]? = some (.bool false) := by rw [ha]; exact putSel_on (e := (3, 15, .bool false)) 3 rfl rfl (hon 3 (by kernel_rfl)) rfl
        replace ha := Aside0.mk ha
        have HBr := Aside0.mk Q_HBr
        have FX := Aside0.mk Q_FX
        have FS := Aside0.mk Q_FS
        have FA := Aside0.mk Q_FA
        have FY := Aside0.mk (Q_FY (hon 6 (by kernel_rfl)))
        refine value_ (w1 := w') (v := .bool false) (wanted_on rfl rfl rfl (e15.trans (by first | rfl | (simp [*]; done)))) rfl ?_ ?_
        · go_simp
          (try simp only [i64_w])
          try rfl
        refine hK.out _ _ ⟨B5_, d5_, B6_, d6_, m6_, (by rw [ha.out]; exact putSel_upk 8 hb_ rfl rfl rfl), Q_HBr, Q_FX, Q_FS, Q_FA, Q_FY, Q_X6_⟩
      refine steps_cons ?_ ?_
      · rintro b a w' ⟨B5_, d5_, B6_, d6_, m6_, ha, Q_HBr, Q_FX, Q_FS, Q_FA, Q_FY, Q_X6_⟩ hb_ hon hoff
        refine ⟨_, rfl, fun K hK => ?_⟩
        have e15 : a.tmps[15]? = some (.bool false) := by rw [ha]; exact putSel_on (e := (3, 15, .bool false)) 3 rfl rfl (hon 3 (by kernel_rfl)) rfl
        have e20 : a.tmps[20]? = some (.bool false) := by rw [ha]; exact putSel_on (e := (8, 20, .bool false)) 8 rfl rfl (hon 8 (by kernel_rfl)) rfl
        replace ha := Aside0.mk ha
        have HBr := Aside0.mk Q_HBr
        have FX := Aside0.mk Q_FX
        have FS := Aside0.mk Q_FS
        have FA := Aside0.mk Q_FA
        have FY := Aside0.mk (Q_FY (hon 6 (by kernel_rfl)))
        refine value_ (w1 := w') (v := .bool false) ?cA ?cB ?_ ?_
        case cA => rfl
        case cB => rfl
        · go_simp
          (try simp only [i64_w])
          try rfl
        refine hK.out _ _ ⟨B5_, d5_, B6_, d6_, m6_, (by rw [ha.out]; exact putSel_upk 9 hb_ rfl rfl rfl), Q_HBr, Q_FX, Q_FS, Q_FA, Q_FY, Q_X6_⟩
      refine steps_cons ?_ ?_
      · rintro b a w' ⟨B5_, d5_, B6_, d6_, m6_, ha, Q_HBr, Q_FX, Q_FS, Q_FA, Q_FY, Q_X6_⟩ hb_ hon hoff
        refine ⟨_, rfl, fun K hK => ?_⟩
        have e21 : a.tmps[21]? = some (.bool false) := by rw [ha]; exact putSel_on (e := (9, 21, .bool false)) 9 rfl rfl (hon 9 (by kernel_rfl)) rfl
        replace ha := Aside0.mk ha
        have HBr := Aside0.mk Q_HBr
        have FX := Aside0.mk Q_FX
        have FS := Aside0.mk Q_FS
        have FA := Aside0.mk Q_FA
        have FY := Aside0.mk (Q_FY (hon 6 (by kernel_rfl)))
        refine value_ (w1 := w') (v := .bool false) ?cA ?cB ?_ ?_
        case cA => rfl
        case cB => rfl
        · go_simp
          (try simp only [i64_w])
          try rfl
        refine hK.out _ _ ⟨B5_, d5_, B6_, d6_, m6_, (by rw [ha.out]; exact putSel_upk 10 hb_ rfl rfl rfl), Q_HBr, Q_FX, Q_FS, Q_FA, Q_FY, Q_X6_⟩
      refine steps_cons ?_ ?_
      · rintro b a w' ⟨B5_, d5_, B6_, d6_, m6_, ha, Q_HBr, Q_FX, Q_FS, Q_FA, Q_FY, Q_X6_⟩ hb_ hon hoff
        refine ⟨_, rfl, fun K hK => ?_⟩
        have e3 : a.tmps[3]? = some (.pointer (some ⟨xb, 0, none⟩)) := by rw [ha]; exact (putSel_off rfl).trans rfl
        have e22 : a.tmps[22]? = some (.bool false) := by rw [ha]; exact putSel_on (e := (10, 22, .bool false)) 10 rfl rfl (hon 10 (by kernel_rfl)) rfl
        replace ha := Aside0.mk ha
        have HBr := Aside0.mk Q_HBr
        have FX := Aside0.mk Q_FX
        have FS := Aside0.mk Q_FS
        have FA := Aside0.mk Q_FA
        have FY := Aside0.mk (Q_FY (hon 6 (by kernel_rfl)))
        refine value_ (w1 := w') (v := .pointer (some ⟨xb, 0, none⟩)) (wanted_on rfl rfl rfl (e22.trans (by first | rfl | (simp [*]; done)))) rfl ?_ ?_
        · go_simp
          (try simp only [i64_w])
          try rfl
        refine hK.out _ _ ⟨B5_, d5_, B6_, d6_, m6_, (by rw [ha.out]; exact putSel_upk 11 hb_ rfl rfl rfl), Q_HBr, Q_FX, Q_FS, Q_FA, Q_FY, Q_X6_⟩
      refine steps_cons ?_ ?_
      · rintro b a w' ⟨B5_, d5_, B6_, d6_, m6_, ha, Q_HBr, Q_FX, Q_FS, Q_FA, Q_FY, Q_X6_⟩ hb_ hon hoff
        refine ⟨_, rfl, fun K hK => ?_⟩
        have e23 : a.tmps[23]? = some (.pointer (some ⟨xb, 0, none⟩)) := by rw [ha]; exact putSel_on (e := (11, 23, .pointer (some ⟨xb, 0, none⟩))) 11 rfl rfl (hon 11 (by kernel_rfl)) rfl
        have e22 : a.tmps[22]? = some (.bool false) := by rw [ha]; exact putSel_on (e := (10, 22, .bool false)) 10 rfl rfl (hon 10 (by kernel_rfl)) rfl
        replace ha := Aside0.mk ha
        have HBr := Aside0.mk Q_HBr
        have FX := Aside0.mk Q_FX
        have FS := Aside0.mk Q_FS
        have FA := Aside0.mk Q_FA
        have FY := Aside0.mk (Q_FY (hon 6 (by kernel_rfl)))
        have z0_ : w'.cell? ⟨xb, 0, none⟩ = some (.int .i64 X.f0.f0) := (blk_cell (FX.out) 0).trans rfl
        have z1_ : w'.cell? ⟨xb, 1, none⟩ = some (.int .i64 X.f0.f1) := (blk_cell (FX.out) 1).trans rfl
        have z2_ : w'.cell? ⟨xb, 2, none⟩ = some (.int .i64 X.f0.f2) := (blk_cell (FX.out) 2).trans rfl
        have z3_ : w'.cell? ⟨xb, 3, none⟩ = some (.int .i64 X.f0.f3) := (blk_cell (FX.out) 3).trans rfl
        have z4_ : w'.cell? ⟨xb, 4, none⟩ = some (.int .i64 X.f0.f4) := (blk_cell (FX.out) 4).trans rfl
        refine value_ (w1 := w') (v := .agg #[.int .i64 X.f0.f0, .int .i64 X.f0.f1, .int .i64 X.f0.f2, .int .i64 X.f0.f3, .int .i64 X.f0.f4]) (wanted_on rfl rfl rfl (e22.trans (by first | rfl | (simp [*]; done)))) rfl ?_ ?_
        · go_simp
          (try simp only [i64_w])
          try rfl
        refine hK.out _ _ ⟨B5_, d5_, B6_, d6_, m6_, (by rw [ha.out]; exact putSel_upk 12 hb_ rfl rfl rfl), Q_HBr, Q_FX, Q_FS, Q_FA, Q_FY, Q_X6_⟩
      refine steps_cons ?_ ?_
      · rintro b a w' ⟨B5_, d5_, B6_, d6_, m6_, ha, Q_HBr, Q_FX, Q_FS, Q_FA, Q_FY, Q_X6_⟩ hb_ hon hoff
        refine ⟨_, rfl, fun K hK => ?_⟩
        have e24 : a.tmps[24]? = some (.agg #[.int .i64 X.f0.f0, .int .i64 X.f0.f1, .int .i64 X.f0.f2, .int .i64 X.f0.f3, .int .i64 X.f0.f4]) := by rw [ha]; exact putSel_on (e := (12, 24, .agg #[.int .i64 X.f0.f0, .int .i64 X.f0.f1, .int .i64 X.f0.f2, .int .i64 X.f0.f3, .int .i64 X.f0.f4])) 12 rfl rfl (hon 12 (by kernel_rfl)) rfl
        have e22 : a.tmps[22]? = some (.bool false) := by rw [ha]; exact putSel_on (e := (10, 22, .bool false)) 10 rfl rfl (hon 10 (by kernel_rfl)) rfl
        replace ha := Aside0.mk ha
        have HBr := Aside0.mk Q_HBr
        have FX := Aside0.mk Q_FX
        have FS := Aside0.mk Q_FS
        have FA := Aside0.mk Q_FA
        have FY := Aside0.mk (Q_FY (hon 6 (by kernel_rfl)))
        refine goes_ Tryd.func13 (by kernel_rfl) rfl #[.agg #[.int .i64 X.f0.f0, .int .i64 X.f0.f1, .int .i64 X.f0.f2, .int .i64 X.f0.f3, .int .i64 X.f0.f4]] (wanted_on rfl rfl rfl (e22.trans (by first | rfl | (simp [*]; done)))) rfl rfl (by first | (simp only [List.map_toArray, List.map_cons, List.map_nil, Act.eval, Array.getD_eq_getD_getElem?, Option.getD_some, e24, e22]; done) | (simp only [List.map_toArray, List.map_cons, List.map_nil, Act.eval, Array.getD_eq_getD_getElem?, Option.getD_some, e24, e22]; rfl)) ?_
        refine (pgood_c _ _ _ _ _ _).mono ?_
        rintro e w1 ⟨hr_, hb1⟩
        rw [show okConf ⟨X.f0.f0, X.f0.f1, X.f0.f2, X.f0.f3, X.f0.f4⟩ = true from HOK.out] at hr_
        subst hr_
        refine ⟨_, rfl, ?_⟩
        refine hK.out _ _ ⟨B5_, d5_, B6_, d6_, m6_, (by rw [ha.out]; exact putSel_upk 13 hb_ rfl rfl rfl), below_step HBr.out hb1, blk_below hb1 FX.out, SV_below FS.out hb1, pw_cell_below hb1 FA.out, fun _ => SV_below FY.out hb1, Q_X6_⟩
      refine steps_cons ?_ ?_
      · rintro b a w' ⟨B5_, d5_, B6_, d6_, m6_, ha, Q_HBr, Q_FX, Q_FS, Q_FA, Q_FY, Q_X6_⟩ hb_ hon hoff
        refine ⟨_, rfl, fun K hK => ?_⟩
        have e25 : a.tmps[25]? = some (.bool true) := by rw [ha]; exact putSel_on (e := (13, 25, .bool true)) 13 rfl rfl (hon 13 (by kernel_rfl)) rfl
        have e22 : a.tmps[22]? = some (.bool false) := by rw [ha]; exact putSel_on (e := (10, 22, .bool false)) 10 rfl rfl (hon 10 (by kernel_rfl)) rfl
        replace ha := Aside0.mk ha
        have HBr := Aside0.mk Q_HBr
        have FX := Aside0.mk Q_FX
        have FS := Aside0.mk Q_FS
        have FA := Aside0.mk Q_FA
        have FY := Aside0.mk (Q_FY (hon 6 (by kernel_rfl)))
        refine value_ (w1 := w') (v := .bool false) (wanted_on rfl rfl rfl (e22.trans (by first | rfl | (simp [*]; done)))) rfl ?_ ?_
        · go_simp
          (try simp only [i64_w])
          try rfl
        refine hK.out _ _ ⟨B5_, d5_, B6_, d6_, m6_, (by rw [ha.out]; exact putSel_upk 14 hb_ rfl rfl rfl), Q_HBr, Q_FX, Q_FS, Q_FA, Q_FY, Q_X6_⟩
      refine steps_cons ?_ ?_
      · rintro b a w' ⟨B5_, d5_, B6_, d6_, m6_, ha, Q_HBr, Q_FX, Q_FS, Q_FA, Q_FY, Q_X6_⟩ hb_ hon hoff
        refine ⟨_, rfl, fun K hK => ?_⟩
        have e22 : a.tmps[22]? = some (.bool false) := by rw [ha]; exact putSel_on (e := (10, 22, .bool false)) 10 rfl rfl (hon 10 (by kernel_rfl)) rfl
        have e26 : a.tmps[26]? = some (.bool false) := by rw [ha]; exact putSel_on (e := (14, 26, .bool false)) 14 rfl rfl (hon 14 (by kernel_rfl)) rfl
        replace ha := Aside0.mk ha
        have HBr := Aside0.mk Q_HBr
        have FX := Aside0.mk Q_FX
        have FS := Aside0.mk Q_FS
        have FA := Aside0.mk Q_FA
        have FY := Aside0.mk (Q_FY (hon 6 (by kernel_rfl)))
        refine value_ (w1 := w') (v := .bool false) ?cA ?cB ?_ ?_
        case cA => rfl
        case cB => rfl
        · go_simp
          (try simp only [i64_w])
          try rfl
        refine hK.out _ _ ⟨B5_, d5_, B6_, d6_, m6_, (by rw [ha.out]; exact putSel_upk 15 hb_ rfl rfl rfl), Q_HBr, Q_FX, Q_FS, Q_FA, Q_FY, Q_X6_⟩
      refine steps_cons ?_ ?_
      · rintro b a w' ⟨B5_, d5_, B6_, d6_, m6_, ha, Q_HBr, Q_FX, Q_FS, Q_FA, Q_FY, Q_X6_⟩ hb_ hon hoff
        refine ⟨_, rfl, fun K hK => ?_⟩
        have e27 : a.tmps[27]? = some (.bool false) := by rw [ha]; exact putSel_on (e := (15, 27, .bool false)) 15 rfl rfl (hon 15 (by kernel_rfl)) rfl
        replace ha := Aside0.mk ha
        have HBr := Aside0.mk Q_HBr
        have FX := Aside0.mk Q_FX
        have FS := Aside0.mk Q_FS
        have FA := Aside0.mk Q_FA
        have FY := Aside0.mk (Q_FY (hon 6 (by kernel_rfl)))
        refine value_ (w1 := w') (v := .bool false) ?cA ?cB ?_ ?_
        case cA => rfl
        case cB => rfl
        · go_simp
          (try simp only [i64_w])
          try rfl
        refine hK.out _ _ ⟨B5_, d5_, B6_, d6_, m6_, (by rw [ha.out]; exact putSel_upk 16 hb_ rfl rfl rfl), Q_HBr, Q_FX, Q_FS, Q_FA, Q_FY, Q_X6_⟩
      refine steps_cons ?_ ?_
      · rintro b a w' ⟨B5_, d5_, B6_, d6_, m6_, ha, Q_HBr, Q_FX, Q_FS, Q_FA, Q_FY, Q_X6_⟩ hb_ hon hoff
        refine ⟨_, rfl, fun K hK => ?_⟩
        have e3 : a.tmps[3]? = some (.pointer (some ⟨xb, 0, none⟩)) := by rw [ha]; exact (putSel_off rfl).trans rfl
        have e28 : a.tmps[28]? = some (.bool false) := by rw [ha]; exact putSel_on (e := (16, 28, .bool false)) 16 rfl rfl (hon 16 (by kernel_rfl)) rfl
        replace ha := Aside0.mk ha
        have HBr := Aside0.mk Q_HBr
        have FX := Aside0.mk Q_FX
        have FS := Aside0.mk Q_FS
        have FA := Aside0.mk Q_FA
        have FY := Aside0.mk (Q_FY (hon 6 (by kernel_rfl)))
        refine value_ (w1 := w') (v := .pointer (some ⟨xb, 5, none⟩)) (wanted_on rfl rfl rfl (e28.trans (by first | rfl | (simp [*]; done)))) rfl ?_ ?_
        · go_simp
          (try simp only [i64_w])
          try rfl
        refine hK.out _ _ ⟨B5_, d5_, B6_, d6_, m6_, (by rw [ha.out]; exact putSel_upk 17 hb_ rfl rfl rfl), Q_HBr, Q_FX, Q_FS, Q_FA, Q_FY, Q_X6_⟩
      refine steps_cons ?_ ?_
      · rintro b a w' ⟨B5_, d5_, B6_, d6_, m6_, ha, Q_HBr, Q_FX, Q_FS, Q_FA, Q_FY, Q_X6_⟩ hb_ hon hoff
        refine ⟨_, rfl, fun K hK => ?_⟩
        have e29 : a.tmps[29]? = some (.pointer (some ⟨xb, 5, none⟩)) := by rw [ha]; exact putSel_on (e := (17, 29, .pointer (some ⟨xb, 5, none⟩))) 17 rfl rfl (hon 17 (by kernel_rfl)) rfl
        have e28 : a.tmps[28]? = some (.bool false) := by rw [ha]; exact putSel_on (e := (16, 28, .bool false)) 16 rfl rfl (hon 16 (by kernel_rfl)) rfl
        replace ha := Aside0.mk ha
        have HBr := Aside0.mk Q_HBr
        have FX := Aside0.mk Q_FX
        have FS := Aside0.mk Q_FS
        have FA := Aside0.mk Q_FA
        have FY := Aside0.mk (Q_FY (hon 6 (by kernel_rfl)))
        have z5_ : w'.cell? ⟨xb, 5, none⟩ = some (.slice A5 n5 c5) := (blk_cell (FX.out) 5).trans rfl
        refine value_ (w1 := w') (v := .slice A5 n5 c5) (wanted_on rfl rfl rfl (e28.trans (by first | rfl | (simp [*]; done)))) rfl ?_ ?_
        · go_simp
          (try simp only [i64_w])
          try rfl
        refine hK.out _ _ ⟨B5_, d5_, B6_, d6_, m6_, (by rw [ha.out]; exact putSel_upk 18 hb_ rfl rfl rfl), Q_HBr, Q_FX, Q_FS, Q_FA, Q_FY, Q_X6_⟩
      refine steps_cons ?_ ?_
      · rintro b a w' ⟨B5_, d5_, B6_, d6_, m6_, ha, Q_HBr, Q_FX, Q_FS, Q_FA, Q_FY, Q_X6_⟩ hb_ hon hoff
        refine ⟨_, rfl, fun K hK => ?_⟩
        have e30 : a.tmps[30]? = some (.slice A5 n5 c5) := by rw [ha]; exact putSel_on (e := (18, 30, .slice A5 n5 c5)) 18 rfl rfl (hon 18 (by kernel_rfl)) rfl
        have e28 : a.tmps[28]? = some (.bool false) := by rw [ha]; exact putSel_on (e := (16, 28, .bool false)) 16 rfl rfl (hon 16 (by kernel_rfl)) rfl
        replace ha := Aside0.mk ha
        have HBr := Aside0.mk Q_HBr
        have FX := Aside0.mk Q_FX
        have FS := Aside0.mk Q_FS
        have FA := Aside0.mk Q_FA
        have FY := Aside0.mk (Q_FY (hon 6 (by kernel_rfl)))
        refine value_ (w1 := w') (v := .int .i64 (n5 : Int)) (wanted_on rfl rfl rfl (e28.trans (by first | rfl | (simp [*]; done)))) rfl ?_ ?_
        · go_simp
          (try simp only [i64_w])
          try rfl
        refine hK.out _ _ ⟨B5_, d5_, B6_, d6_, m6_, (by rw [ha.out]; exact putSel_upk 19 hb_ rfl rfl rfl), Q_HBr, Q_FX, Q_FS, Q_FA, Q_FY, Q_X6_⟩
      refine steps_cons ?_ ?_
      · rintro b a w' ⟨B5_, d5_, B6_, d6_, m6_, ha, Q_HBr, Q_FX, Q_FS, Q_FA, Q_FY, Q_X6_⟩ hb_ hon hoff
        refine ⟨_, rfl, fun K hK => ?_⟩
        have e31 : a.tmps[31]? = some (.int .i64 (n5 : Int)) := by rw [ha]; exact putSel_on (e := (19, 31, .int .i64 (n5 : Int))) 19 rfl rfl (hon 19 (by kernel_rfl)) rfl
        have e28 : a.tmps[28]? = some (.bool false) := by rw [ha]; exact putSel_on (e := (16, 28, .bool false)) 16 rfl rfl (hon 16 (by kernel_rfl)) rfl
        replace ha := Aside0.mk ha
        have HBr := Aside0.mk Q_HBr
        have FX := Aside0.mk Q_FX
        have FS := Aside0.mk Q_FS
        have FA := Aside0.mk Q_FA
        have FY := Aside0.mk (Q_FY (hon 6 (by kernel_rfl)))
        have z1_ := ZA.out
        have z2_ := ZB.out
        have z3_ := ZC.out
        refine value_ (w1 := w') (v := .bool false) (wanted_on rfl rfl rfl (e28.trans (by first | rfl | (simp [*]; done)))) rfl ?_ ?_
        · go_simp
          (try simp only [i64_w])
          try rfl
        refine hK.out _ _ ⟨B5_, d5_, B6_, d6_, m6_, (by rw [ha.out]; exact putSel_upk 20 hb_ rfl rfl rfl), Q_HBr, Q_FX, Q_FS, Q_FA, Q_FY, Q_X6_⟩
      refine steps_cons ?_ ?_
      · rintro b a w' ⟨B5_, d5_, B6_, d6_, m6_, ha, Q_HBr, Q_FX, Q_FS, Q_FA, Q_FY, Q_X6_⟩ hb_ hon hoff
        refine ⟨_, rfl, fun K hK => ?_⟩
        have e28 : a.tmps[28]? = some (.bool false) := by rw [ha]; exact putSel_on (e := (16, 28, .bool false)) 16 rfl rfl (hon 16 (by kernel_rfl)) rfl
        have e32 : a.tmps[32]? = some (.bool false) := by rw [ha]; exact putSel_on (e := (20, 32, .bool false)) 20 rfl rfl (hon 20 (by kernel_rfl)) rfl
        replace ha := Aside0.mk ha
        have HBr := Aside0.mk Q_HBr
        have FX := Aside0.mk Q_FX
        have FS := Aside0.mk Q_FS
        have FA := Aside0.mk Q_FA
        have FY := Aside0.mk (Q_FY (hon 6 (by kernel_rfl)))
        refine value_ (w1 := w') (v := .bool false) ?cA ?cB ?_ ?_
        case cA => rfl
        case cB => rfl
        · go_simp
          (try simp only [i64_w])
          try rfl
        refine hK.out _ _ ⟨B5_, d5_, B6_, d6_, m6_, (by rw [ha.out]; exact putSel_upk 21 hb_ rfl rfl rfl), Q_HBr, Q_FX, Q_FS, Q_FA, Q_FY, Q_X6_⟩
      refine steps_cons ?_ ?_
      · rintro b a w' ⟨B5_, d5_, B6_, d6_, m6_, ha, Q_HBr, Q_FX, Q_FS, Q_FA, Q_FY, Q_X6_⟩ hb_ hon hoff
        refine ⟨_, rfl, fun K hK => ?_⟩
        have e33 : a.tmps[33]? = some (.bool false) := by rw [ha]; exact putSel_on (e := (21, 33, .bool false)) 21 rfl rfl (hon 21 (by kernel_rfl)) rfl
        replace ha := Aside0.mk ha
        have HBr := Aside0.mk Q_HBr
        have FX := Aside0.mk Q_FX
        have FS := Aside0.mk Q_FS
        have FA := Aside0.mk Q_FA
        have FY := Aside0.mk (Q_FY (hon 6 (by kernel_rfl)))
        refine value_ (w1 := w') (v := .bool false) ?cA ?cB ?_ ?_
        case cA => rfl
        case cB => rfl
        · go_simp
          (try simp only [i64_w])
          try rfl
        refine hK.out _ _ ⟨B5_, d5_, B6_, d6_, m6_, (by rw [ha.out]; exact putSel_upk 22 hb_ rfl rfl rfl), Q_HBr, Q_FX, Q_FS, Q_FA, Q_FY, Q_X6_⟩
      refine steps_cons ?_ ?_
      · rintro b a w' ⟨B5_, d5_, B6_, d6_, m6_, ha, Q_HBr, Q_FX, Q_FS, Q_FA, Q_FY, Q_X6_⟩ hb_ hon hoff
        refine ⟨_, rfl, fun K hK => ?_⟩
        have e3 : a.tmps[3]? = some (.pointer (some ⟨xb, 0, none⟩)) := by rw [ha]; exact (putSel_off rfl).trans rfl
        have e34 : a.tmps[34]? = some (.bool false) := by rw [ha]; exact putSel_on (e := (22, 34, .bool false)) 22 rfl rfl (hon 22 (by kernel_rfl)) rfl
        replace ha := Aside0.mk ha
        have HBr := Aside0.mk Q_HBr
        have FX := Aside0.mk Q_FX
        have FS := Aside0.mk Q_FS
        have FA := Aside0.mk Q_FA
        have FY := Aside0.mk (Q_FY (hon 6 (by kernel_rfl)))
        refine value_ (w1 := w') (v := .pointer (some ⟨xb, 6, none⟩)) (wanted_on rfl rfl rfl (e34.trans (by first | rfl | (simp [*]; done)))) rfl ?_ ?_
        · go_simp
          (try simp only [i64_w])
          try rfl
        refine hK.out _ _ ⟨B5_, d5_, B6_, d6_, m6_, (by rw [ha.out]; exact putSel_upk 23 hb_ rfl rfl rfl), Q_HBr, Q_FX, Q_FS, Q_FA, Q_FY, Q_X6_⟩
      refine steps_cons ?_ ?_
      · rintro b a w' ⟨B5_, d5_, B6_, d6_, m6_, ha, Q_HBr, Q_FX, Q_FS, Q_FA, Q_FY, Q_X6_⟩ hb_ hon hoff
        refine ⟨_, rfl, fun K hK => ?_⟩
        have e35 : a.tmps[35]? = some (.pointer (some ⟨xb, 6, none⟩)) := by rw [ha]; exact putSel_on (e := (23, 35, .pointer (some ⟨xb, 6, none⟩))) 23 rfl rfl (hon 23 (by kernel_rfl)) rfl
        have e34 : a.tmps[34]? = some (.bool false) := by rw [ha]; exact putSel_on (e := (22, 34, .bool false)) 22 rfl rfl (hon 22 (by kernel_rfl)) rfl
        replace ha := Aside0.mk ha
        have HBr := Aside0.mk Q_HBr
        have FX := Aside0.mk Q_FX
        have FS := Aside0.mk Q_FS
        have FA := Aside0.mk Q_FA
        have FY := Aside0.mk (Q_FY (hon 6 (by kernel_rfl)))
        have z6_ : w'.cell? ⟨xb, 6, none⟩ = some (.slice A6 n6 c6) := (blk_cell (FX.out) 6).trans rfl
        refine value_ (w1 := w') (v := .slice A6 n6 c6) (wanted_on rfl rfl rfl (e34.trans (by first | rfl | (simp [*]; done)))) rfl ?_ ?_
        · go_simp
          (try simp only [i64_w])
          try rfl
        refine hK.out _ _ ⟨B5_, d5_, B6_, d6_, m6_, (by rw [ha.out]; exact putSel_upk 24 hb_ rfl rfl rfl), Q_HBr, Q_FX, Q_FS, Q_FA, Q_FY, Q_X6_⟩
      refine steps_cons ?_ ?_
      · rintro b a w' ⟨B5_, d5_, B6_, d6_, m6_, ha, Q_HBr, Q_FX, Q_FS, Q_FA, Q_FY, Q_X6_⟩ hb_ hon hoff
        refine ⟨_, rfl, fun K hK => ?_⟩
        have e36 : a.tmps[36]? = some (.slice A6 n6 c6) := by rw [ha]; exact putSel_on (e := (24, 36, .slice A6 n6 c6)) 24 rfl rfl (hon 24 (by kernel_rfl)) rfl
        have e34 : a.tmps[34]? = some (.bool false) := by rw [ha]; exact putSel_on (e := (22, 34, .bool false)) 22 rfl rfl (hon 22 (by kernel_rfl)) rfl
        replace ha := Aside0.mk ha
        have HBr := Aside0.mk Q_HBr
        have FX := Aside0.mk Q_FX
        have FS := Aside0.mk Q_FS
        have FA := Aside0.mk Q_FA
        have FY := Aside0.mk (Q_FY (hon 6 (by kernel_rfl)))
        refine value_ (w1 := w') (v := .int .i64 (n6 : Int)) (wanted_on rfl rfl rfl (e34.trans (by first | rfl | (simp [*]; done)))) rfl ?_ ?_
        · go_simp
          (try simp only [i64_w])
          try rfl
        refine hK.out _ _ ⟨B5_, d5_, B6_, d6_, m6_, (by rw [ha.out]; exact putSel_upk 25 hb_ rfl rfl rfl), Q_HBr, Q_FX, Q_FS, Q_FA, Q_FY, Q_X6_⟩
      refine steps_cons ?_ ?_
      · rintro b a w' ⟨B5_, d5_, B6_, d6_, m6_, ha, Q_HBr, Q_FX, Q_FS, Q_FA, Q_FY, Q_X6_⟩ hb_ hon hoff
        refine ⟨_, rfl, fun K hK => ?_⟩
        have e37 : a.tmps[37]? = some (.int .i64 (n6 : Int)) := by rw [ha]; exact putSel_on (e := (25, 37, .int .i64 (n6 : Int))) 25 rfl rfl (hon 25 (by kernel_rfl)) rfl
        have e34 : a.tmps[34]? = some (.bool false) := by rw [ha]; exact putSel_on (e := (22, 34, .bool false)) 22 rfl rfl (hon 22 (by kernel_rfl)) rfl
        replace ha := Aside0.mk ha
        have HBr := Aside0.mk Q_HBr
        have FX := Aside0.mk Q_FX
        have FS := Aside0.mk Q_FS
        have FA := Aside0.mk Q_FA
        have FY := Aside0.mk (Q_FY (hon 6 (by kernel_rfl)))
        have z1_ := ZA.out
        have z2_ := ZB.out
        have z3_ := ZC.out
        refine value_ (w1 := w') (v := .bool false) (wanted_on rfl rfl rfl (e34.trans (by first | rfl | (simp [*]; done)))) rfl ?_ ?_
        · go_simp
          (try simp only [i64_w])
          try rfl
        refine hK.out _ _ ⟨B5_, d5_, B6_, d6_, m6_, (by rw [ha.out]; exact putSel_upk 26 hb_ rfl rfl rfl), Q_HBr, Q_FX, Q_FS, Q_FA, Q_FY, Q_X6_⟩
      refine steps_cons ?_ ?_
      · rintro b a w' ⟨B5_, d5_, B6_, d6_, m6_, ha, Q_HBr, Q_FX, Q_FS, Q_FA, Q_FY, Q_X6_⟩ hb_ hon hoff
        refine ⟨_, rfl, fun K hK => ?_⟩
        have e34 : a.tmps[34]? = some (.bool false) := by rw [ha]; exact putSel_on (e := (22, 34, .bool false)) 22 rfl rfl (hon 22 (by kernel_rfl)) rfl
        have e38 : a.tmps[38]? = some (.bool false) := by rw [ha]; exact putSel_on (e := (26, 38, .bool false)) 26 rfl rfl (hon 26 (by kernel_rfl)) rfl
        replace ha := Aside0.mk ha
        have HBr := Aside0.mk Q_HBr
        have FX := Aside0.mk Q_FX
        have FS := Aside0.mk Q_FS
        have FA := Aside0.mk Q_FA
        have FY := Aside0.mk (Q_FY (hon 6 (by kernel_rfl)))
        refine value_ (w1 := w') (v := .bool false) ?cA ?cB ?_ ?_
        case cA => rfl
        case cB => rfl
        · go_simp
          (try simp only [i64_w])
          try rfl
        refine hK.out _ _ ⟨B5_, d5_, B6_, d6_, m6_, (by rw [ha.out]; exact putSel_upk 27 hb_ rfl rfl rfl), Q_HBr, Q_FX, Q_FS, Q_FA, Q_FY, Q_X6_⟩
      refine steps_cons ?_ ?_
      · rintro b a w' ⟨B5_, d5_, B6_, d6_, m6_, ha, Q_HBr, Q_FX, Q_FS, Q_FA, Q_FY, Q_X6_⟩ hb_ hon hoff
        refine ⟨_, rfl, fun K hK => ?_⟩
        have e39 : a.tmps[39]? = some (.bool false) := by rw [ha]; exact putSel_on (e := (27, 39, .bool false)) 27 rfl rfl (hon 27 (by kernel_rfl)) rfl
        replace ha := Aside0.mk ha
        have HBr := Aside0.mk Q_HBr
        have FX := Aside0.mk Q_FX
        have FS := Aside0.mk Q_FS
        have FA := Aside0.mk Q_FA
        have FY := Aside0.mk (Q_FY (hon 6 (by kernel_rfl)))
        refine value_ (w1 := w') (v := .bool false) ?cA ?cB ?_ ?_
        case cA => rfl
        case cB => rfl
        · go_simp
          (try simp only [i64_w])
          try rfl
        refine hK.out _ _ ⟨B5_, d5_, B6_, d6_, m6_, (by rw [ha.out]; exact putSel_upk 28 hb_ rfl rfl rfl), Q_HBr, Q_FX, Q_FS, Q_FA, Q_FY, Q_X6_⟩
      refine steps_cons ?_ ?_
      · rintro b a w' ⟨B5_, d5_, B6_, d6_, m6_, ha, Q_HBr, Q_FX, Q_FS, Q_FA, Q_FY, Q_X6_⟩ hb_ hon hoff
        refine ⟨_, rfl, fun K hK => ?_⟩
        have e3 : a.tmps[3]? = some (.pointer (some ⟨xb, 0, none⟩)) := by rw [ha]; exact (putSel_off rfl).trans rfl
        have e40 : a.tmps[40]? = some (.bool false) := by rw [ha]; exact putSel_on (e := (28, 40, .bool false)) 28 rfl rfl (hon 28 (by kernel_rfl)) rfl
        replace ha := Aside0.mk ha
        have HBr := Aside0.mk Q_HBr
        have FX := Aside0.mk Q_FX
        have FS := Aside0.mk Q_FS
        have FA := Aside0.mk Q_FA
        have FY := Aside0.mk (Q_FY (hon 6 (by kernel_rfl)))
        refine value_ (w1 := w') (v := .pointer (some ⟨xb, 6, none⟩)) (wanted_on rfl rfl rfl (e40.trans (by first | rfl | (simp [*]; done)))) rfl ?_ ?_
        · go_simp
          (try simp only [i64_w])
          try rfl
        refine hK.out _ _ ⟨B5_, d5_, B6_, d6_, m6_, (by rw [ha.out]; exact putSel_upk 29 hb_ rfl rfl rfl), Q_HBr, Q_FX, Q_FS, Q_FA, Q_FY, Q_X6_⟩
      refine steps_cons ?_ ?_
      · rintro b a w' ⟨B5_, d5_, B6_, d6_, m6_, ha, Q_HBr, Q_FX, Q_FS, Q_FA, Q_FY, Q_X6_⟩ hb_ hon hoff
        refine ⟨_, rfl, fun K hK => ?_⟩
        have e41 : a.tmps[41]? = some (.pointer (some ⟨xb, 6, none⟩)) := by rw [ha]; exact putSel_on (e := (29, 41, .pointer (some ⟨xb, 6, none⟩))) 29 rfl rfl (hon 29 (by kernel_rfl)) rfl
        have e40 : a.tmps[40]? = some (.bool false) := by rw [ha]; exact putSel_on (e := (28, 40, .bool false)) 28 rfl rfl (hon 28 (by kernel_rfl)) rfl
        replace ha := Aside0.mk ha
        have HBr := Aside0.mk Q_HBr
        have FX := Aside0.mk Q_FX
        have FS := Aside0.mk Q_FS
        have FA := Aside0.mk Q_FA
        have FY := Aside0.mk (Q_FY (hon 6 (by kernel_rfl)))
        have z6_ : w'.cell? ⟨xb, 6, none⟩ = some (.slice A6 n6 c6) := (blk_cell (FX.out) 6).trans rfl
        refine value_ (w1 := w') (v := .slice A6 n6 c6) (wanted_on rfl rfl rfl (e40.trans (by first | rfl | (simp [*]; done)))) rfl ?_ ?_
        · go_simp
          (try simp only [i64_w])
          try rfl
        refine hK.out _ _ ⟨B5_, d5_, B6_, d6_, m6_, (by rw [ha.out]; exact putSel_upk 30 hb_ rfl rfl rfl), Q_HBr, Q_FX, Q_FS, Q_FA, Q_FY, Q_X6_⟩
      refine steps_cons ?_ ?_
      · rintro b a w' ⟨B5_, d5_, B6_, d6_, m6_, ha, Q_HBr, Q_FX, Q_FS, Q_FA, Q_FY, Q_X6_⟩ hb_ hon hoff
        refine ⟨_, rfl, fun K hK => ?_⟩
        have e42 : a.tmps[42]? = some (.slice A6 n6 c6) := by rw [ha]; exact putSel_on (e := (30, 42, .slice A6 n6 c6)) 30 rfl rfl (hon 30 (by kernel_rfl)) rfl
        have e40 : a.tmps[40]? = some (.bool false) := by rw [ha]; exact putSel_on (e := (28, 40, .bool false)) 28 rfl rfl (hon 28 (by kernel_rfl)) rfl
        replace ha := Aside0.mk ha
        have HBr := Aside0.mk Q_HBr
        have FX := Aside0.mk Q_FX
        have FS := Aside0.mk Q_FS
        have FA := Aside0.mk Q_FA
        have FY := Aside0.mk (Q_FY (hon 6 (by kernel_rfl)))
        refine value_ (w1 := w') (v := .int .i64 (n6 : Int)) (wanted_on rfl rfl rfl (e40.trans (by first | rfl | (simp [*]; done)))) rfl ?_ ?_
        · go_simp
          (try simp only [i64_w])
          try rfl
        refine hK.out _ _ ⟨B5_, d5_, B6_, d6_, m6_, (by rw [ha.out]; exact putSel_upk 31 hb_ rfl rfl rfl), Q_HBr, Q_FX, Q_FS, Q_FA, Q_FY, Q_X6_⟩
      refine steps_cons ?_ ?_
      · rintro b a w' ⟨B5_, d5_, B6_, d6_, m6_, ha, Q_HBr, Q_FX, Q_FS, Q_FA, Q_FY, Q_X6_⟩ hb_ hon hoff
        refine ⟨_, rfl, fun K hK => ?_⟩
        have e0 : a.tmps[0]? = some (.string s) := by rw [ha]; exact (putSel_off rfl).trans rfl
        have e40 : a.tmps[40]? = some (.bool false) := by rw [ha]; exact putSel_on (e := (28, 40, .bool false)) 28 rfl rfl (hon 28 (by kernel_rfl)) rfl
        replace ha := Aside0.mk ha
        have HBr := Aside0.mk Q_HBr
        have FX := Aside0.mk Q_FX
        have FS := Aside0.mk Q_FS
        have FA := Aside0.mk Q_FA
        have FY := Aside0.mk (Q_FY (hon 6 (by kernel_rfl)))
        refine value_ (w1 := w') (v := .string s) (wanted_on rfl rfl rfl (e40.trans (by first | rfl | (simp [*]; done)))) rfl ?_ ?_
        · go_simp
          (try simp only [i64_w])
          try rfl
        refine hK.out _ _ ⟨B5_, d5_, B6_, d6_, m6_, (by rw [ha.out]; exact putSel_upk 32 hb_ rfl rfl rfl), Q_HBr, Q_FX, Q_FS, Q_FA, Q_FY, Q_X6_⟩
      refine steps_cons ?_ ?_
      · rintro b a w' ⟨B5_, d5_, B6_, d6_, m6_, ha, Q_HBr, Q_FX, Q_FS, Q_FA, Q_FY, Q_X6_⟩ hb_ hon hoff
        refine ⟨_, rfl, fun K hK => ?_⟩
        have e44 : a.tmps[44]? = some (.string s) := by rw [ha]; exact putSel_on (e := (32, 44, .string s)) 32 rfl rfl (hon 32 (by kernel_rfl)) rfl
        have e40 : a.tmps[40]? = some (.bool false) := by rw [ha]; exact putSel_on (e := (28, 40, .bool false)) 28 rfl rfl (hon 28 (by kernel_rfl)) rfl
        replace ha := Aside0.mk ha
        have HBr := Aside0.mk Q_HBr
        have FX := Aside0.mk Q_FX
        have FS := Aside0.mk Q_FS
        have FA := Aside0.mk Q_FA
        have FY := Aside0.mk (Q_FY (hon 6 (by kernel_rfl)))
        refine value_ (w1 := w') (v := .int .i64 (s.size : Int)) (wanted_on rfl rfl rfl (e40.trans (by first | rfl | (simp [*]; done)))) rfl ?_ ?_
        · go_simp
          (try simp only [i64_w])
          try rfl
        refine hK.out _ _ ⟨B5_, d5_, B6_, d6_, m6_, (by rw [ha.out]; exact putSel_upk 33 hb_ rfl rfl rfl), Q_HBr, Q_FX, Q_FS, Q_FA, Q_FY, Q_X6_⟩
      refine steps_cons ?_ ?_
      · rintro b a w' ⟨B5_, d5_, B6_, d6_, m6_, ha, Q_HBr, Q_FX, Q_FS, Q_FA, Q_FY, Q_X6_⟩ hb_ hon hoff
        refine ⟨_, rfl, fun K hK => ?_⟩
        have e43 : a.tmps[43]? = some (.int .i64 (n6 : Int)) := by rw [ha]; exact putSel_on (e := (31, 43, .int .i64 (n6 : Int))) 31 rfl rfl (hon 31 (by kernel_rfl)) rfl
        have e45 : a.tmps[45]? = some (.int .i64 (s.size : Int)) := by rw [ha]; exact putSel_on (e := (33, 45, .int .i64 (s.size : Int))) 33 rfl rfl (hon 33 (by kernel_rfl)) rfl
        have e40 : a.tmps[40]? = some (.bool false) := by rw [ha]; exact putSel_on (e := (28, 40, .bool false)) 28 rfl rfl (hon 28 (by kernel_rfl)) rfl
        replace ha := Aside0.mk ha
        have HBr := Aside0.mk Q_HBr
        have FX := Aside0.mk Q_FX
        have FS := Aside0.mk Q_FS
        have FA := Aside0.mk Q_FA
        have FY := Aside0.mk (Q_FY (hon 6 (by kernel_rfl)))
        have z1_ := ZA.out
        have z2_ := ZB.out
        have z3_ := ZC.out
        refine value_ (w1 := w') (v := .bool false) (wanted_on rfl rfl rfl (e40.trans (by first | rfl | (simp [*]; done)))) rfl ?_ ?_
        · go_simp
          (try simp only [i64_w])
          try rfl
        refine hK.out _ _ ⟨B5_, d5_, B6_, d6_, m6_, (by rw [ha.out]; exact putSel_upk 34 hb_ rfl rfl rfl), Q_HBr, Q_FX, Q_FS, Q_FA, Q_FY, Q_X6_⟩
      refine steps_cons ?_ ?_
      · rintro b a w' ⟨B5_, d5_, B6_, d6_, m6_, ha, Q_HBr, Q_FX, Q_FS, Q_FA, Q_FY, Q_X6_⟩ hb_ hon hoff
        refine ⟨_, rfl, fun K hK => ?_⟩
        have e40 : a.tmps[40]? = some (.bool false) := by rw [ha]; exact putSel_on (e := (28, 40, .bool false)) 28 rfl rfl (hon 28 (by kernel_rfl)) rfl
        have e46 : a.tmps[46]? = some (.bool false) := by rw [ha]; exact putSel_on (e := (34, 46, .bool false)) 34 rfl rfl (hon 34 (by kernel_rfl)) rfl
        replace ha := Aside0.mk ha
        have HBr := Aside0.mk Q_HBr
        have FX := Aside0.mk Q_FX
        have FS := Aside0.mk Q_FS
        have FA := Aside0.mk Q_FA
        have FY := Aside0.mk (Q_FY (hon 6 (by kernel_rfl)))
        refine value_ (w1 := w') (v := .bool false) ?cA ?cB ?_ ?_
        case cA => rfl
        case cB => rfl
        · go_simp
          (try simp only [i64_w])
          try rfl
        refine hK.out _ _ ⟨B5_, d5_, B6_, d6_, m6_, (by rw [ha.out]; exact putSel_upk 35 hb_ rfl rfl rfl), Q_HBr, Q_FX, Q_FS, Q_FA, Q_FY, Q_X6_⟩
      exact steps_nil
    rintro b a w' hall ⟨B5_, d5_, B6_, d6_, m6_, ha, Q_HBr, Q_FX, Q_FS, Q_FA, Q_FY, Q_X6_⟩
    clear FA FS FX HBr
    have hb0_ := hall 0 (by kernel_rfl)
    have hb1_ := hall 1 (by kernel_rfl)
    have hb2_ := hall 2 (by kernel_rfl)
    have hb3_ := hall 3 (by kernel_rfl)
    have hb4_ := hall 4 (by kernel_rfl)
    have hb5_ := hall 5 (by kernel_rfl)
    have hb6_ := hall 6 (by kernel_rfl)
    have hb7_ := hall 7 (by kernel_rfl)
    have hb8_ := hall 8 (by kernel_rfl)
    have hb9_ := hall 9 (by kernel_rfl)
    have hb10_ := hall 10 (by kernel_rfl)
    have hb11_ := hall 11 (by kernel_rfl)
    have hb12_ := hall 12 (by kernel_rfl)
    have hb13_ := hall 13 (by kernel_rfl)
    have hb14_ := hall 14 (by kernel_rfl)
    have hb15_ := hall 15 (by kernel_rfl)
    have hb16_ := hall 16 (by kernel_rfl)
    have hb17_ := hall 17 (by kernel_rfl)
    have hb18_ := hall 18 (by kernel_rfl)
    have hb19_ := hall 19 (by kernel_rfl)
    have hb20_ := hall 20 (by kernel_rfl)
    have hb21_ := hall 21 (by kernel_rfl)
    have hb22_ := hall 22 (by kernel_rfl)
    have hb23_ := hall 23 (by kernel_rfl)
    have hb24_ := hall 24 (by kernel_rfl)
    have hb25_ := hall 25 (by kernel_rfl)
    have hb26_ := hall 26 (by kernel_rfl)
    have hb27_ := hall 27 (by kernel_rfl)
    have hb28_ := hall 28 (by kernel_rfl)
    have hb29_ := hall 29 (by kernel_rfl)
    have hb30_ := hall 30 (by kernel_rfl)
    have hb31_ := hall 31 (by kernel_rfl)
    have hb32_ := hall 32 (by kernel_rfl)
    have hb33_ := hall 33 (by kernel_rfl)
    have hb34_ := hall 34 (by kernel_rfl)
    have hb35_ := hall 35 (by kernel_rfl)
    subst ha
    obtain rfl := Q_X6_ hb6_
    simp only [putSel, hb0_, hb1_, hb2_, hb3_, hb4_, hb5_, hb6_, hb7_, hb8_, hb9_, hb10_, hb11_, hb12_, hb13_, hb14_, hb15_, hb16_, hb17_, hb18_, hb19_, hb20_, hb21_, hb22_, hb23_, hb24_, hb25_, hb26_, hb27_, hb28_, hb29_, hb30_, hb31_, hb32_, hb33_, hb34_, hb35_, if_true, Act.put, List.setIfInBounds_toArray, List.set_cons_zero, List.set_cons_succ]
    have HBr := Aside0.mk Q_HBr
    clear Q_HBr
    have FX := Aside0.mk Q_FX
    clear Q_FX
    have FS := Aside0.mk Q_FS
    clear Q_FS
    have FA := Aside0.mk Q_FA
    clear Q_FA
    have FY := Aside0.mk (Q_FY hb6_)
    clear Q_FY
    clear hall hb0_ hb1_ hb2_ hb3_ hb4_ hb5_ hb6_ hb7_ hb8_ hb9_ hb10_ hb11_ hb12_ hb13_ hb14_ hb15_ hb16_ hb17_ hb18_ hb19_ hb20_ hb21_ hb22_ hb23_ hb24_ hb25_ hb26_ hb27_ hb28_ hb29_ hb30_ hb31_ hb32_ hb33_ hb34_ hb35_
    go_wp2
    have HBW := HB
    clear ZA ZB ZC HB
    go_loopw [4] (fun i wr => ∃ k : Nat, k ≤ n5 ∧ i = .int .i64 k ∧ Below w.heap.size w wr ∧ wr.heap[xb]? = some (.cells #[.int .i64 X.f0.f0, .int .i64 X.f0.f1, .int .i64 X.f0.f2, .int .i64 X.f0.f3, .int .i64 X.f0.f4, .slice A5 n5 c5, .slice A6 n6 c6] 28 (0, 0)) ∧ k37.C wr A5 n5 X.f1) (fun i _ => n5 - (intOf i).toNat)
    case atStart =>
      obtain ⟨A5', c5', A6', c6', e, _, C5, _, _⟩ := FS.out
      injection e with e
      have e5 : Value.slice A5 n5 c5 = .slice A5' X.f1.length c5' := by have := congrArg (fun a => a.getD 5 undef) e; exact this
      injection e5 with e51 e52 e53
      exact ⟨0, Nat.zero_le _, rfl, HBr.out, FX.out, by rw [e51, e52]; exact C5⟩
    case round =>
      obtain ⟨k, hk, rfl, hB, hX, hC⟩ := hrel
      clear HBW FX FS FA HBr
      have HB := Aside0.mk hB
      have FX := Aside0.mk hX
      have FC := Aside0.mk hC
      have x5 := (blk_cell hX 5).trans rfl
      clear hB hX hC
      by_cases hlt : k < n5
      · have hlk : (k : Int) < (n5 : Int) := by omega
        obtain ⟨ad, eA, q0, q1, q2, q3, q4⟩ := at_T37 FC.out (k : Int) (by omega) (by omega)
        simp only [Int.toNat_natCast] at q0 q1 q2 q3 q4
        cases eA
        obtain ⟨y, hy⟩ : ∃ y, y = rd_T37 X.f1 (k : Int) := ⟨_, rfl⟩
        rw [← hy] at q0 q1 q2 q3 q4
        have hmem : y ∈ X.f1 := by rw [hy]; unfold rd_T37; have := HN5.out; simp [List.getD, show k < X.f1.length by omega]
        have hgt := List.all_eq_true.1 (good_conf HG.out).2.2.2.1 y hmem
        have hth := of_decide_eq_true (Bool.and_eq_true_iff.1 hgt).1
        have HFIT := Aside0.mk (Bool.and_eq_true_iff.1 hgt).2
        have YA : Aside0 (¬ y.f0 < 0) := Aside0.mk (by omega)
        have YB : Aside0 (¬ X.f0.f2 ≤ y.f0) := Aside0.mk (by omega)
        have FA := Aside0.mk (pw_cell_below HB.out HA.out)
        clear hmem hgt hth hy
        go_wp2
        have QQ0 := Aside0.mk q0
        have QQ1 := Aside0.mk q1
        have QQ2 := Aside0.mk q2
        have QQ3 := Aside0.mk q3
        have QQ4 := Aside0.mk q4
        clear q0 q1 q2 q3 q4 x5
        refine start_ (n := 32) (S := fun w' => True) (ds := []) #[false, false, false, false, false, false, false, false, false, false, false, false, false, false, false, false, false, false, false, false, false, false, false, false, false, false, false, false, false, false, false, false] (by kernel_rfl) rfl rfl trivial (fun hHeld => ?_)
        refine with_tabW runs11.tab11 runs11.bits11 (fun HT_ HW_ => ?_)
        have HBr := Aside0.mk (below_drew1 (Below.refl wr.heap.size wr))
        refine inv_at [0, 1, 2, 3, 4, 5, 6, 7, 8, 9, 10, 11, 12, 13, 14, 15, 16, 17, 18, 19, 20, 21, 22, 23, 24, 25, 26, 27, 28, 29, 30, 31] (fun a0_ b a w' => a = putSel a0_ b [(0, 55, .pointer (some ⟨xb, 0, none⟩)), (1, 56, .pointer (some ⟨xb, 0, none⟩)), (2, 57, .int .i64 X.f0.f0), (3, 58, .pointer (some ⟨xb, 5, none⟩)), (4, 59, .slice (some ad) n5 c5), (5, 60, .int .i64 (k : Int)), (6, 61, .pointer (some (ad.add (k * 5)))), (7, 62, .pointer (some ⟨((ad.add (k * 5))).block, ((ad.add (k * 5))).off + 1, none⟩)), (8, 63, .agg #[.int .i64 y.f1.f0, .int .i64 y.f1.f1, .int .i64 y.f1.f2, .int .i64 y.f1.f3]), (9, 64, .bool true), (10, 65, .bool false), (11, 66, .bool false), (12, 67, .pointer (some ⟨xb, 5, none⟩)), (13, 68, .slice (some ad) n5 c5), (14, 69, .int .i64 (k : Int)), (15, 70, .pointer (some (ad.add (k * 5)))), (16, 71, .pointer (some (ad.add (k * 5)))), (17, 72, .int .i64 y.f0), (18, 73, .bool false), (19, 74, .bool false), (20, 75, .bool false), (21, 76, .pointer (some ⟨xb, 5, none⟩)), (22, 77, .slice (some ad) n5 c5), (23, 78, .int .i64 (k : Int)), (24, 79, .pointer (some (ad.add (k * 5)))), (25, 80, .pointer (some (ad.add (k * 5)))), (26, 81, .int .i64 y.f0), (27, 82, .pointer (some ⟨xb, 0, none⟩)), (28, 83, .pointer (some ⟨xb, 2, none⟩)), (29, 84, .int .i64 X.f0.f2), (30, 85, .bool false), (31, 86, .bool false)] ∧ (Below wr.heap.size wr w') ∧ (w'.heap[xb]? = some (.cells #[.int .i64 X.f0.f0, .int .i64 X.f0.f1, .int .i64 X.f0.f2, .int .i64 X.f0.f3, .int .i64 X.f0.f4, .slice (some ad) n5 c5, .slice A6 n6 c6] 28 (0, 0))) ∧ (w'.cell? gArg = some (Sent aA))) HT_.out HW_.out (by kernel_rfl) (by kernel_rfl) ?_ ?_ ?_
        · exact ⟨by simp only [putSel, Bool.false_eq_true, if_false], HBr.out, FX.out, pw_cell_below (below_drew (Below.refl _ _)) FA.out⟩
        · skip
          clear FA FX HBr
          refine steps_cons ?_ ?_
          · rintro b a w' ⟨ha, Q_HBr, Q_FX, Q_FA⟩ hb_ hon hoff
            refine ⟨_, rfl, fun K hK => ?_⟩
            have e3 : a.tmps[3]? = some (.pointer (some ⟨xb, 0, none⟩)) := by rw [ha]; exact (putSel_off rfl).trans rfl
            replace ha := Aside0.mk ha
            have HBr := Aside0.mk Q_HBr
            have FX := Aside0.mk Q_FX
            have FA := Aside0.mk Q_FA
            refine value_ (w1 := w') (v := .pointer (some ⟨xb, 0, none⟩)) ?cA ?cB ?_ ?_
            case cA => rfl
            case cB => rfl
            · go_simp
              (try simp only [i64_w])
              try rfl
            refine hK.out _ _ ⟨(by rw [ha.out]; exact putSel_upk 0 hb_ rfl rfl rfl), Q_HBr, Q_FX, Q_FA⟩
          refine steps_cons ?_ ?_
          · rintro b a w' ⟨ha, Q_HBr, Q_FX, Q_FA⟩ hb_ hon hoff
            refine ⟨_, rfl, fun K hK => ?_⟩
            have e55 : a.tmps[55]? = some (.pointer (some ⟨xb, 0, none⟩)) := by rw [ha]; exact putSel_on (e := (0, 55, .pointer (some ⟨xb, 0, none⟩))) 0 rfl rfl (hon 0 (by kernel_rfl)) rfl
            replace ha := Aside0.mk ha
            have HBr := Aside0.mk Q_HBr
            have FX := Aside0.mk Q_FX
            have FA := Aside0.mk Q_FA
            refine value_ (w1 := w') (v := .pointer (some ⟨xb, 0, none⟩)) ?cA ?cB ?_ ?_
            case cA => rfl
            case cB => rfl
            · go_simp
              (try simp only [i64_w])
              try rfl
            refine hK.out _ _ ⟨(by rw [ha.out]; exact putSel_upk 1 hb_ rfl rfl rfl), Q_HBr, Q_FX, Q_FA⟩
          refine steps_cons ?_ ?_
          · rintro b a w' ⟨ha, Q_HBr, Q_FX, Q_FA⟩ hb_ hon hoff
            refine ⟨_, rfl, fun K hK => ?_⟩
            have e56 : a.tmps[56]? = some (.pointer (some ⟨xb, 0, none⟩)) := by rw [ha]; exact putSel_on (e := (1, 56, .pointer (some ⟨xb, 0, none⟩))) 1 rfl rfl (hon 1 (by kernel_rfl)) rfl
            replace ha := Aside0.mk ha
            have HBr := Aside0.mk Q_HBr
            have FX := Aside0.mk Q_FX
            have FA := Aside0.mk Q_FA
            have z0_ : w'.cell? ⟨xb, 0, none⟩ = some (.int .i64 X.f0.f0) := (blk_cell (FX.out) 0).trans rfl
            refine value_ (w1 := w') (v := .int .i64 X.f0.f0) ?cA ?cB ?_ ?_
            case cA => rfl
            case cB => rfl
            · go_simp
              (try simp only [i64_w])
              try rfl
            refine hK.out _ _ ⟨(by rw [ha.out]; exact putSel_upk 2 hb_ rfl rfl rfl), Q_HBr, Q_FX, Q_FA⟩
          refine steps_cons ?_ ?_
          · rintro b a w' ⟨ha, Q_HBr, Q_FX, Q_FA⟩ hb_ hon hoff
            refine ⟨_, rfl, fun K hK => ?_⟩
            have e3 : a.tmps[3]? = some (.pointer (some ⟨xb, 0, none⟩)) := by rw [ha]; exact (putSel_off rfl).trans rfl
            replace ha := Aside0.mk ha
            have HBr := Aside0.mk Q_HBr
            have FX := Aside0.mk Q_FX
            have FA := Aside0.mk Q_FA
            refine value_ (w1 := w') (v := .pointer (some ⟨xb, 5, none⟩)) ?cA ?cB ?_ ?_
            case cA => rfl
            case cB => rfl
            · go_simp
              (try simp only [i64_w])
              try rfl
            refine hK.out _ _ ⟨(by rw [ha.out]; exact putSel_upk 3 hb_ rfl rfl rfl), Q_HBr, Q_FX, Q_FA⟩
          refine steps_cons ?_ ?_
          · rintro b a w' ⟨ha, Q_HBr, Q_FX, Q_FA⟩ hb_ hon hoff
            refine ⟨_, rfl, fun K hK => ?_⟩
            have e58 : a.tmps[58]? = some (.pointer (some ⟨xb, 5, none⟩)) := by rw [ha]; exact putSel_on (e := (3, 58, .pointer (some ⟨xb, 5, none⟩))) 3 rfl rfl (hon 3 (by kernel_rfl)) rfl
            replace ha := Aside0.mk ha
            have HBr := Aside0.mk Q_HBr
            have FX := Aside0.mk Q_FX
            have FA := Aside0.mk Q_FA
            have z5_ : w'.cell? ⟨xb, 5, none⟩ = some (.slice (some ad) n5 c5) := (blk_cell (FX.out) 5).trans rfl
            refine value_ (w1 := w') (v := .slice (some ad) n5 c5) ?cA ?cB ?_ ?_
            case cA => rfl
            case cB => rfl
            · go_simp
              (try simp only [i64_w])
              try rfl
            refine hK.out _ _ ⟨(by rw [ha.out]; exact putSel_upk 4 hb_ rfl rfl rfl), Q_HBr, Q_FX, Q_FA⟩
          refine steps_cons ?_ ?_
          · rintro b a w' ⟨ha, Q_HBr, Q_FX, Q_FA⟩ hb_ hon hoff
            refine ⟨_, rfl, fun K hK => ?_⟩
            have e4 : a.tmps[4]? = some (.int .i64 (k : Int)) := by rw [ha]; exact (putSel_off rfl).trans rfl
            replace ha := Aside0.mk ha
            have HBr := Aside0.mk Q_HBr
            have FX := Aside0.mk Q_FX
            have FA := Aside0.mk Q_FA
            refine value_ (w1 := w') (v := .int .i64 (k : Int)) ?cA ?cB ?_ ?_
            case cA => rfl
            case cB => rfl
            · go_simp
              (try simp only [i64_w])
              try rfl
            refine hK.out _ _ ⟨(by rw [ha.out]; exact putSel_upk 5 hb_ rfl rfl rfl), Q_HBr, Q_FX, Q_FA⟩
          refine steps_cons ?_ ?_
          · rintro b a w' ⟨ha, Q_HBr, Q_FX, Q_FA⟩ hb_ hon hoff
            refine ⟨_, rfl, fun K hK => ?_⟩
            have e59 : a.tmps[59]? = some (.slice (some ad) n5 c5) := by rw [ha]; exact putSel_on (e := (4, 59, .slice (some ad) n5 c5)) 4 rfl rfl (hon 4 (by kernel_rfl)) rfl
            have e60 : a.tmps[60]? = some (.int .i64 (k : Int)) := by rw [ha]; exact putSel_on (e := (5, 60, .int .i64 (k : Int))) 5 rfl rfl (hon 5 (by kernel_rfl)) rfl
            replace ha := Aside0.mk ha
            have HBr := Aside0.mk Q_HBr
            have FX := Aside0.mk Q_FX
            have FA := Aside0.mk Q_FA
            refine value_ (w1 := w') (v := .pointer (some (ad.add (k * 5)))) ?cA ?cB ?_ ?_
            case cA => rfl
            case cB => rfl
            · go_simp
              (try simp only [i64_w])
              try rfl
            refine hK.out _ _ ⟨(by rw [ha.out]; exact putSel_upk 6 hb_ rfl rfl rfl), Q_HBr, Q_FX, Q_FA⟩
          refine steps_cons ?_ ?_
          · rintro b a w' ⟨ha, Q_HBr, Q_FX, Q_FA⟩ hb_ hon hoff
            refine ⟨_, rfl, fun K hK => ?_⟩
            have e61 : a.tmps[61]? = some (.pointer (some (ad.add (k * 5)))) := by rw [ha]; exact putSel_on (e := (6, 61, .pointer (some (ad.add (k * 5))))) 6 rfl rfl (hon 6 (by kernel_rfl)) rfl
            replace ha := Aside0.mk ha
            have HBr := Aside0.mk Q_HBr
            have FX := Aside0.mk Q_FX
            have FA := Aside0.mk Q_FA
            refine value_ (w1 := w') (v := .pointer (some ⟨((ad.add (k * 5))).block, ((ad.add (k * 5))).off + 1, none⟩)) ?cA ?cB ?_ ?_
            case cA => rfl
            case cB => rfl
            · go_simp
              (try simp only [i64_w])
              try rfl
            refine hK.out _ _ ⟨(by rw [ha.out]; exact putSel_upk 7 hb_ rfl rfl rfl), Q_HBr, Q_FX, Q_FA⟩
          refine steps_cons ?_ ?_
          · rintro b a w' ⟨ha, Q_HBr, Q_FX, Q_FA⟩ hb_ hon hoff
            refine ⟨_, rfl, fun K hK => ?_⟩
            have e62 : a.tmps[62]? = some (.pointer (some ⟨((ad.add (k * 5))).block, ((ad.add (k * 5))).off + 1, none⟩)) := by rw [ha]; exact putSel_on (e := (7, 62, .pointer (some ⟨((ad.add (k * 5))).block, ((ad.add (k * 5))).off + 1, none⟩))) 7 rfl rfl (hon 7 (by kernel_rfl)) rfl
            replace ha := Aside0.mk ha
            have HBr := Aside0.mk Q_HBr
            have FX := Aside0.mk Q_FX
            have FA := Aside0.mk Q_FA
            have z0_ := pw_cell_below HBr.out (QQ1.out)
            have z1_ := pw_cell_below HBr.out (QQ2.out)
            have z2_ := pw_cell_below HBr.out (QQ3.out)
            have z3_ := pw_cell_below HBr.out (QQ4.out)
            refine value_ (w1 := w') (v := .agg #[.int .i64 y.f1.f0, .int .i64 y.f1.f1, .int .i64 y.f1.f2, .int .i64 y.f1.f3]) ?cA ?cB ?_ ?_
            case cA => rfl
            case cB => rfl
            · go_simp
              (try simp only [i64_w])
              try rfl
            refine hK.out _ _ ⟨(by rw [ha.out]; exact putSel_upk 8 hb_ rfl rfl rfl), Q_HBr, Q_FX, Q_FA⟩
          refine steps_cons ?_ ?_
          · rintro b a w' ⟨ha, Q_HBr, Q_FX, Q_FA⟩ hb_ hon hoff
            refine ⟨_, rfl, fun K hK => ?_⟩
            have e57 : a.tmps[57]? = some (.int .i64 X.f0.f0) := by rw [ha]; exact putSel_on (e := (2, 57, .int .i64 X.f0.f0)) 2 rfl rfl (hon 2 (by kernel_rfl)) rfl
            have e63 : a.tmps[63]? = some (.agg #[.int .i64 y.f1.f0, .int .i64 y.f1.f1, .int .i64 y.f1.f2, .int .i64 y.f1.f3]) := by rw [ha]; exact putSel_on (e := (8, 63, .agg #[.int .i64 y.f1.f0, .int .i64 y.f1.f1, .int .i64 y.f1.f2, .int .i64 y.f1.f3])) 8 rfl rfl (hon 8 (by kernel_rfl)) rfl
            replace ha := Aside0.mk ha
            have HBr := Aside0.mk Q_HBr
            have FX := Aside0.mk Q_FX
            have FA := Aside0.mk Q_FA
            refine goes_ Tryd.func14 (by kernel_rfl) rfl #[.int .i64 X.f0.f0, .agg #[.int .i64 y.f1.f0, .int .i64 y.f1.f1, .int .i64 y.f1.f2, .int .i64 y.f1.f3]] (by rfl) rfl rfl (by first | (simp only [List.map_toArray, List.map_cons, List.map_nil, Act.eval, Array.getD_eq_getD_getElem?, Option.getD_some, e57, e63]; done) | (simp only [List.map_toArray, List.map_cons, List.map_nil, Act.eval, Array.getD_eq_getD_getElem?, Option.getD_some, e57, e63]; rfl)) ?_
            refine (fits_c _ _ _ _ _ aA _ FA.out).mono ?_
            rintro e w1 ⟨hr_, hb1⟩
            rw [show fits X.f0.f0 ⟨y.f1.f0, y.f1.f1, y.f1.f2, y.f1.f3⟩ = true from HFIT.out] at hr_
            subst hr_
            refine ⟨_, rfl, ?_⟩
            refine hK.out _ _ ⟨(by rw [ha.out]; exact putSel_upk 9 hb_ rfl rfl rfl), below_step HBr.out hb1, blk_below hb1 FX.out, pw_cell_below hb1 FA.out⟩
          refine steps_cons ?_ ?_
          · rintro b a w' ⟨ha, Q_HBr, Q_FX, Q_FA⟩ hb_ hon hoff
            refine ⟨_, rfl, fun K hK => ?_⟩
            have e64 : a.tmps[64]? = some (.bool true) := by rw [ha]; exact putSel_on (e := (9, 64, .bool true)) 9 rfl rfl (hon 9 (by kernel_rfl)) rfl
            replace ha := Aside0.mk ha
            have HBr := Aside0.mk Q_HBr
            have FX := Aside0.mk Q_FX
            have FA := Aside0.mk Q_FA
            refine value_ (w1 := w') (v := .bool false) ?cA ?cB ?_ ?_
            case cA => rfl
            case cB => rfl
            · go_simp
              (try simp only [i64_w])
              try rfl
            refine hK.out _ _ ⟨(by rw [ha.out]; exact putSel_upk 10 hb_ rfl rfl rfl), Q_HBr, Q_FX, Q_FA⟩
          refine steps_cons ?_ ?_
          · rintro b a w' ⟨ha, Q_HBr, Q_FX, Q_FA⟩ hb_ hon hoff
            refine ⟨_, rfl, fun K hK => ?_⟩
            have e65 : a.tmps[65]? = some (.bool false) := by rw [ha]; exact putSel_on (e := (10, 65, .bool false)) 10 rfl rfl (hon 10 (by kernel_rfl)) rfl
            replace ha := Aside0.mk ha
            have HBr := Aside0.mk Q_HBr
            have FX := Aside0.mk Q_FX
            have FA := Aside0.mk Q_FA
            refine value_ (w1 := w') (v := .bool false) ?cA ?cB ?_ ?_
            case cA => rfl
            case cB => rfl
            · go_simp
              (try simp only [i64_w])
              try rfl
            refine hK.out _ _ ⟨(by rw [ha.out]; exact putSel_upk 11 hb_ rfl rfl rfl), Q_HBr, Q_FX, Q_FA⟩
          refine steps_cons ?_ ?_
          · rintro b a w' ⟨ha, Q_HBr, Q_FX, Q_FA⟩ hb_ hon hoff
            refine ⟨_, rfl, fun K hK => ?_⟩
            have e3 : a.tmps[3]? = some (.pointer (some ⟨xb, 0, none⟩)) := by rw [ha]; exact (putSel_off rfl).trans rfl
            have e66 : a.tmps[66]? = some (.bool false) := by rw [ha]; exact putSel_on (e := (11, 66, .bool false)) 11 rfl rfl (hon 11 (by kernel_rfl)) rfl
            replace ha := Aside0.mk ha
            have HBr := Aside0.mk Q_HBr
            have FX := Aside0.mk Q_FX
            have FA := Aside0.mk Q_FA
            refine value_ (w1 := w') (v := .pointer (some ⟨xb, 5, none⟩)) (wanted_on rfl rfl rfl (e66.trans (by first | rfl | (simp [*]; done)))) rfl ?_ ?_
            · go_simp
              (try simp only [i64_w])
              try rfl
            refine hK.out _ _ ⟨(by rw [ha.out]; exact putSel_upk 12 hb_ rfl rfl rfl), Q_HBr, Q_FX, Q_FA⟩
          refine steps_cons ?_ ?_
          · rintro b a w' ⟨ha, Q_HBr, Q_FX, Q_FA⟩ hb_ hon hoff
            refine ⟨_, rfl, fun K hK => ?_⟩
            have e67 : a.tmps[67]? = some (.pointer (some ⟨xb, 5, none⟩)) := by rw [ha]; exact putSel_on (e := (12, 67, .pointer (some ⟨xb, 5, none⟩))) 12 rfl rfl (hon 12 (by kernel_rfl)) rfl
            have e66 : a.tmps[66]? = some (.bool false) := by rw [ha]; exact putSel_on (e := (11, 66, .bool false)) 11 rfl rfl (hon 11 (by kernel_rfl)) rfl
            replace ha := Aside0.mk ha
            have HBr := Aside0.mk Q_HBr
            have FX := Aside0.mk Q_FX
            have FA := Aside0.mk Q_FA
            have z5_ : w'.cell? ⟨xb, 5, none⟩ = some (.slice (some ad) n5 c5) := (blk_cell (FX.out) 5).trans rfl
            refine value_ (w1 := w') (v := .slice (some ad) n5 c5) (wanted_on rfl rfl rfl (e66.trans (by first | rfl | (simp [*]; done)))) rfl ?_ ?_
            · go_simp
              (try simp only [i64_w])
              try rfl
            refine hK.out _ _ ⟨(by rw [ha.out]; exact putSel_upk 13 hb_ rfl rfl rfl), Q_HBr, Q_FX, Q_FA⟩
          refine steps_cons ?_ ?_
          · rintro b a w' ⟨ha, Q_HBr, Q_FX, Q_FA⟩ hb_ hon hoff
            refine ⟨_, rfl, fun K hK => ?_⟩
            have e4 : a.tmps[4]? = some (.int .i64 (k : Int)) := by rw [ha]; exact (putSel_off rfl).trans rfl
            have e66 : a.tmps[66]? = some (.bool false) := by rw [ha]; exact putSel_on (e := (11, 66, .bool false)) 11 rfl rfl (hon 11 (by kernel_rfl)) rfl
            replace ha := Aside0.mk ha
            have HBr := Aside0.mk Q_HBr
            have FX := Aside0.mk Q_FX
            have FA := Aside0.mk Q_FA
            refine value_ (w1 := w') (v := .int .i64 (k : Int)) (wanted_on rfl rfl rfl (e66.trans (by first | rfl | (simp [*]; done)))) rfl ?_ ?_
            · go_simp
              (try simp only [i64_w])
              try rfl
            refine hK.out _ _ ⟨(by rw [ha.out]; exact putSel_upk 14 hb_ rfl rfl rfl), Q_HBr, Q_FX, Q_FA⟩
          refine steps_cons ?_ ?_
          · rintro b a w' ⟨ha, Q_HBr, Q_FX, Q_FA⟩ hb_ hon hoff
            refine ⟨_, rfl, fun K hK => ?_⟩
            have e68 : a.tmps[68]? = some (.slice (some ad) n5 c5) := by rw [ha]; exact putSel_on (e := (13, 68, .slice (some ad) n5 c5)) 13 rfl rfl (hon 13 (by kernel_rfl)) rfl
            have e69 : a.tmps[69]? = some (.int .i64 (k : Int)) := by rw [ha]; exact putSel_on (e := (14, 69, .int .i64 (k : Int))) 14 rfl rfl (hon 14 (by kernel_rfl)) rfl
            have e66 : a.tmps[66]? = some (.bool false) := by rw [ha]; exact putSel_on (e := (11, 66, .bool false)) 11 rfl rfl (hon 11 (by kernel_rfl)) rfl
            replace ha := Aside0.mk ha
            have HBr := Aside0.mk Q_HBr
            have FX := Aside0.mk Q_FX
            have FA := Aside0.mk Q_FA
            refine value_ (w1 := w') (v := .pointer (some (ad.add (k * 5)))) (wanted_on rfl rfl rfl (e66.trans (by first | rfl | (simp [*]; done)))) rfl ?_ ?_
            · go_simp
              (try simp only [i64_w])
              try rfl
            refine hK.out _ _ ⟨(by rw [ha.out]; exact putSel_upk 15 hb_ rfl rfl rfl), Q_HBr, Q_FX, Q_FA⟩
          refine steps_cons ?_ ?_
          · rintro b a w' ⟨ha, Q_HBr, Q_FX, Q_FA⟩ hb_ hon hoff
            refine ⟨_, rfl, fun K hK => ?_⟩
            have e70 : a.tmps[70]? = some (.pointer (some (ad.add (k * 5)))) := by rw [ha]; exact putSel_on (e := (15, 70, .pointer (some (ad.add (k * 5))))) 15 rfl rfl (hon 15 (by kernel_rfl)) rfl
            have e66 : a.tmps[66]? = some (.bool false) := by rw [ha]; exact putSel_on (e := (11, 66, .bool false)) 11 rfl rfl (hon 11 (by kernel_rfl)) rfl
            replace ha := Aside0.mk ha
            have HBr := Aside0.mk Q_HBr
            have FX := Aside0.mk Q_FX
            have FA := Aside0.mk Q_FA
            refine value_ (w1 := w') (v := .pointer (some (ad.add (k * 5)))) (wanted_on rfl rfl rfl (e66.trans (by first | rfl | (simp [*]; done)))) rfl ?_ ?_
            · go_simp
              (try simp only [i64_w])
              try rfl
            refine hK.out _ _ ⟨(by rw [ha.out]; exact putSel_upk 16 hb_ rfl rfl rfl), Q_HBr, Q_FX, Q_FA⟩
          refine steps_cons ?_ ?_
          · rintro b a w' ⟨ha, Q_HBr, Q_FX, Q_FA⟩ hb_ hon hoff
            refine ⟨_, rfl, fun K hK => ?_⟩
            have e71 : a.tmps[71]? = some (.pointer (some (ad.add (k * 5)))) := by rw [ha]; exact putSel_on (e := (16, 71, .pointer (some (ad.add (k * 5))))) 16 rfl rfl (hon 16 (by kernel_rfl)) rfl
            have e66 : a.tmps[66]? = some (.bool false) := by rw [ha]; exact putSel_on (e := (11, 66, .bool false)) 11 rfl rfl (hon 11 (by kernel_rfl)) rfl
            replace ha := Aside0.mk ha
            have HBr := Aside0.mk Q_HBr
            have FX := Aside0.mk Q_FX
            have FA := Aside0.mk Q_FA
            have z0_ := pw_cell_below HBr.out (QQ0.out)
            refine value_ (w1 := w') (v := .int .i64 y.f0) (wanted_on rfl rfl rfl (e66.trans (by first | rfl | (simp [*]; done)))) rfl ?_ ?_
            · go_simp
              (try simp only [i64_w])
              try rfl
            refine hK.out _ _ ⟨(by rw [ha.out]; exact putSel_upk 17 hb_ rfl rfl rfl), Q_HBr, Q_FX, Q_FA⟩
          refine steps_cons ?_ ?_
          · rintro b a w' ⟨ha, Q_HBr, Q_FX, Q_FA⟩ hb_ hon hoff
            refine ⟨_, rfl, fun K hK => ?_⟩
            have e72 : a.tmps[72]? = some (.int .i64 y.f0) := by rw [ha]; exact putSel_on (e := (17, 72, .int .i64 y.f0)) 17 rfl rfl (hon 17 (by kernel_rfl)) rfl
            have e66 : a.tmps[66]? = some (.bool false) := by rw [ha]; exact putSel_on (e := (11, 66, .bool false)) 11 rfl rfl (hon 11 (by kernel_rfl)) rfl
            replace ha := Aside0.mk ha
            have HBr := Aside0.mk Q_HBr
            have FX := Aside0.mk Q_FX
            have FA := Aside0.mk Q_FA
            have z1_ := YA.out
            have z2_ := YB.out
            refine value_ (w1 := w') (v := .bool false) (wanted_on rfl rfl rfl (e66.trans (by first | rfl | (simp [*]; done)))) rfl ?_ ?_
            · go_simp
              (try simp only [i64_w])
              try rfl
            refine hK.out _ _ ⟨(by rw [ha.out]; exact putSel_upk 18 hb_ rfl rfl rfl), Q_HBr, Q_FX, Q_FA⟩
          refine steps_cons ?_ ?_
          · rintro b a w' ⟨ha, Q_HBr, Q_FX, Q_FA⟩ hb_ hon hoff
            refine ⟨_, rfl, fun K hK => ?_⟩
            have e66 : a.tmps[66]? = some (.bool false) := by rw [ha]; exact putSel_on (e := (11, 66, .bool false)) 11 rfl rfl (hon 11 (by kernel_rfl)) rfl
            have e73 : a.tmps[73]? = some (.bool false) := by rw [ha]; exact putSel_on (e := (18, 73, .bool false)) 18 rfl rfl (hon 18 (by kernel_rfl)) rfl
            replace ha := Aside0.mk ha
            have HBr := Aside0.mk Q_HBr
            have FX := Aside0.mk Q_FX
            have FA := Aside0.mk Q_FA
            refine value_ (w1 := w') (v := .bool false) ?cA ?cB ?_ ?_
            case cA => rfl
            case cB => rfl
            · go_simp
              (try simp only [i64_w])
              try rfl
            refine hK.out _ _ ⟨(by rw [ha.out]; exact putSel_upk 19 hb_ rfl rfl rfl), Q_HBr, Q_FX, Q_FA⟩
          refine steps_cons ?_ ?_
          · rintro b a w' ⟨ha, Q_HBr, Q_FX, Q_FA⟩ hb_ hon hoff
            refine ⟨_, rfl, fun K hK => ?_⟩
            have e74 : a.tmps[74]? = some (.bool false) := by rw [ha]; exact putSel_on (e := (19, 74, .bool false)) 19 rfl rfl (hon 19 (by kernel_rfl)) rfl
            replace ha := Aside0.mk ha
            have HBr := Aside0.mk Q_HBr
            have FX := Aside0.mk Q_FX
            have FA := Aside0.mk Q_FA
            refine value_ (w1 := w') (v := .bool false) ?cA ?cB ?_ ?_
            case cA => rfl
            case cB => rfl
            · go_simp
              (try simp only [i64_w])
              try rfl
            refine hK.out _ _ ⟨(by rw [ha.out]; exact putSel_upk 20 hb_ rfl rfl rfl), Q_HBr, Q_FX, Q_FA⟩
          refine steps_cons ?_ ?_
          · rintro b a w' ⟨ha, Q_HBr, Q_FX, Q_FA⟩ hb_ hon hoff
            refine ⟨_, rfl, fun K hK => ?_⟩
            have e3 : a.tmps[3]? = some (.pointer (some ⟨xb, 0, none⟩)) := by rw [ha]; exact (putSel_off rfl).trans rfl
            have e75 : a.tmps[75]? = some (.bool false) := by rw [ha]; exact putSel_on (e := (20, 75, .bool false)) 20 rfl rfl (hon 20 (by kernel_rfl)) rfl
            replace ha := Aside0.mk ha
            have HBr := Aside0.mk Q_HBr
            have FX := Aside0.mk Q_FX
            have FA := Aside0.mk Q_FA
            refine value_ (w1 := w') (v := .pointer (some ⟨xb, 5, none⟩)) (wanted_on rfl rfl rfl (e75.trans (by first | rfl | (simp [*]; done)))) rfl ?_ ?_
            · go_simp
              (try simp only [i64_w])
              try rfl
            refine hK.out _ _ ⟨(by rw [ha.out]; exact putSel_upk 21 hb_ rfl rfl rfl), Q_HBr, Q_FX, Q_FA⟩
          refine steps_cons ?_ ?_
          · rintro b a w' ⟨ha, Q_HBr, Q_FX, Q_FA⟩ hb_ hon hoff
            refine ⟨_, rfl, fun K hK => ?_⟩
            have e76 : a.tmps[76]? = some (.pointer (some ⟨xb, 5, none⟩)) := by rw [ha]; exact putSel_on (e := (21, 76, .pointer (some ⟨xb, 5, none⟩))) 21 rfl rfl (hon 21 (by kernel_rfl)) rfl
            have e75 : a.tmps[75]? = some (.bool false) := by rw [ha]; exact putSel_on (e := (20, 75, .bool false)) 20 rfl rfl (hon 20 (by kernel_rfl)) rfl
            replace ha := Aside0.mk ha
            have HBr := Aside0.mk Q_HBr
            have FX := Aside0.mk Q_FX
            have FA := Aside0.mk Q_FA
            have z5_ : w'.cell? ⟨xb, 5, none⟩ = some (.slice (some ad) n5 c5) := (blk_cell (FX.out) 5).trans rfl
            refine value_ (w1 := w') (v := .slice (some ad) n5 c5) (wanted_on rfl rfl rfl (e75.trans (by first | rfl | (simp [*]; done)))) rfl ?_ ?_
            · go_simp
              (try simp only [i64_w])
              try rfl
            refine hK.out _ _ ⟨(by rw [ha.out]; exact putSel_upk 22 hb_ rfl rfl rfl), Q_HBr, Q_FX, Q_FA⟩
          refine steps_cons ?_ ?_
          · rintro b a w' ⟨ha, Q_HBr, Q_FX, Q_FA⟩ hb_ hon hoff
            refine ⟨_, rfl, fun K hK => ?_⟩
            have e4 : a.tmps[4]? = some (.int .i64 (k : Int)) := by rw [ha]; exact (putSel_off rfl).trans rfl
            have e75 : a.tmps[75]? = some (.bool false) := by rw [ha]; exact putSel_on (e := (20, 75, .bool false)) 20 rfl rfl (hon 20 (by kernel_rfl)) rfl
            replace ha := Aside0.mk ha
            have HBr := Aside0.mk Q_HBr
            have FX := Aside0.mk Q_FX
            have FA := Aside0.mk Q_FA
            refine value_ (w1 := w') (v := .int .i64 (k : Int)) (wanted_on rfl rfl rfl (e75.trans (by first | rfl | (simp [*]; done)))) rfl ?_ ?_
            · go_simp
              (try simp only [i64_w])
              try rfl
            refine hK.out _ _ ⟨(by rw [ha.out]; exact putSel_upk 23 hb_ rfl rfl rfl), Q_HBr, Q_FX, Q_FA⟩
          refine steps_cons ?_ ?_
          · rintro b a w' ⟨ha, Q_HBr, Q_FX, Q_FA⟩ hb_ hon hoff
            refine ⟨_, rfl, fun K hK => ?_⟩
            have e77 : a.tmps[77]? = some (.slice (some ad) n5 c5) := by rw [ha]; exact putSel_on (e := (22, 77, .slice (some ad) n5 c5)) 22 rfl rfl (hon 22 (by kernel_rfl)) rfl
            have e78 : a.tmps[78]? = some (.int .i64 (k : Int)) := by rw [ha]; exact putSel_on (e := (23, 78, .int .i64 (k : Int))) 23 rfl rfl (hon 23 (by kernel_rfl)) rfl
            have e75 : a.tmps[75]? = some (.bool false) := by rw [ha]; exact putSel_on (e := (20, 75, .bool false)) 20 rfl rfl (hon 20 (by kernel_rfl)) rfl
            replace ha := Aside0.mk ha
            have HBr := Aside0.mk Q_HBr
            have FX := Aside0.mk Q_FX
            have FA := Aside0.mk Q_FA
            refine value_ (w1 := w') (v := .pointer (some (ad.add (k * 5)))) (wanted_on rfl rfl rfl (e75.trans (by first | rfl | (simp [*]; done)))) rfl ?_ ?_
            · go_simp
              (try simp only [i64_w])
              try rfl
            refine hK.out _ _ ⟨(by rw [ha.out]; exact putSel_upk 24 hb_ rfl rfl rfl), Q_HBr, Q_FX, Q_FA⟩
          refine steps_cons ?_ ?_
          · rintro b a w' ⟨ha, Q_HBr, Q_FX, Q_FA⟩ hb_ hon hoff
            refine ⟨_, rfl, fun K hK => ?_⟩
            have e79 : a.tmps[79]? = some (.pointer (some (ad.add (k * 5)))) := by rw [ha]; exact putSel_on (e := (24, 79, .pointer (some (ad.add (k * 5))))) 24 rfl rfl (hon 24 (by kernel_rfl)) rfl
            have e75 : a.tmps[75]? = some (.bool false) := by rw [ha]; exact putSel_on (e := (20, 75, .bool false)) 20 rfl rfl (hon 20 (by kernel_rfl)) rfl
            replace ha := Aside0.mk ha
            have HBr := Aside0.mk Q_HBr
            have FX := Aside0.mk Q_FX
            have FA := Aside0.mk Q_FA
            refine value_ (w1 := w') (v := .pointer (some (ad.add (k * 5)))) (wanted_on rfl rfl rfl (e75.trans (by first | rfl | (simp [*]; done)))) rfl ?_ ?_
            · go_simp
              (try simp only [i64_w])
              try rfl
            refine hK.out _ _ ⟨(by rw [ha.out]; exact putSel_upk 25 hb_ rfl rfl rfl), Q_HBr, Q_FX, Q_FA⟩
          refine steps_cons ?_ ?_
          · rintro b a w' ⟨ha, Q_HBr, Q_FX, Q_FA⟩ hb_ hon hoff
            refine ⟨_, rfl, fun K hK => ?_⟩
            have e80 : a.tmps[80]? = some (.pointer (some (ad.add (k * 5)))) := by rw [ha]; exact putSel_on (e := (25, 80, .pointer (some (ad.add (k * 5))))) 25 rfl rfl (hon 25 (by kernel_rfl)) rfl
            have e75 : a.tmps[75]? = some (.bool false) := by rw [ha]; exact putSel_on (e := (20, 75, .bool false)) 20 rfl rfl (hon 20 (by kernel_rfl)) rfl
            replace ha := Aside0.mk ha
            have HBr := Aside0.mk Q_HBr
            have FX := Aside0.mk Q_FX
            have FA := Aside0.mk Q_FA
            have z0_ := pw_cell_below HBr.out (QQ0.out)
            refine value_ (w1 := w') (v := .int .i64 y.f0) (wanted_on rfl rfl rfl (e75.trans (by first | rfl | (simp [*]; done)))) rfl ?_ ?_
            · go_simp
              (try simp only [i64_w])
              try rfl
            refine hK.out _ _ ⟨(by rw [ha.out]; exact putSel_upk 26 hb_ rfl rfl rfl), Q_HBr, Q_FX, Q_FA⟩
          refine steps_cons ?_ ?_
          · rintro b a w' ⟨ha, Q_HBr, Q_FX, Q_FA⟩ hb_ hon hoff
            refine ⟨_, rfl, fun K hK => ?_⟩
            have e3 : a.tmps[3]? = some (.pointer (some ⟨xb, 0, none⟩)) := by rw [ha]; exact (putSel_off rfl).trans rfl
            have e75 : a.tmps[75]? = some (.bool false) := by rw [ha]; exact putSel_on (e := (20, 75, .bool false)) 20 rfl rfl (hon 20 (by kernel_rfl)) rfl
            replace ha := Aside0.mk ha
            have HBr := Aside0.mk Q_HBr
            have FX := Aside0.mk Q_FX
            have FA := Aside0.mk Q_FA
            refine value_ (w1 := w') (v := .pointer (some ⟨xb, 0, none⟩)) (wanted_on rfl rfl rfl (e75.trans (by first | rfl | (simp [*]; done)))) rfl ?_ ?_
            · go_simp
              (try simp only [i64_w])
              try rfl
            refine hK.out _ _ ⟨(by rw [ha.out]; exact putSel_upk 27 hb_ rfl rfl rfl), Q_HBr, Q_FX, Q_FA⟩
          refine steps_cons ?_ ?_
          · rintro b a w' ⟨ha, Q_HBr, Q_FX, Q_FA⟩ hb_ hon hoff
            refine ⟨_, rfl, fun K hK => ?_⟩
            have e82 : a.tmps[82]? = some (.pointer (some ⟨xb, 0, none⟩)) := by rw [ha]; exact putSel_on (e := (27, 82, .pointer (some ⟨xb, 0, none⟩))) 27 rfl rfl (hon 27 (by kernel_rfl)) rfl
            have e75 : a.tmps[75]? = some (.bool false) := by rw [ha]; exact putSel_on (e := (20, 75, .bool false)) 20 rfl rfl (hon 20 (by kernel_rfl)) rfl
            replace ha := Aside0.mk ha
            have HBr := Aside0.mk Q_HBr
            have FX := Aside0.mk Q_FX
            have FA := Aside0.mk Q_FA
            refine value_ (w1 := w') (v := .pointer (some ⟨xb, 2, none⟩)) (wanted_on rfl rfl rfl (e75.trans (by first | rfl | (simp [*]; done)))) rfl ?_ ?_
            · go_simp
              (try simp only [i64_w])
              try rfl
            refine hK.out _ _ ⟨(by rw [ha.out]; exact putSel_upk 28 hb_ rfl rfl rfl), Q_HBr, Q_FX, Q_FA⟩
          refine steps_cons ?_ ?_
          · rintro b a w' ⟨ha, Q_HBr, Q_FX, Q_FA⟩ hb_ hon hoff
            refine ⟨_, rfl, fun K hK => ?_⟩
            have e83 : a.tmps[83]? = some (.pointer (some ⟨xb, 2, none⟩)) := by rw [ha]; exact putSel_on (e := (28, 83, .pointer (some ⟨xb, 2, none⟩))) 28 rfl rfl (hon 28 (by kernel_rfl)) rfl
            have e75 : a.tmps[75]? = some (.bool false) := by rw [ha]; exact putSel_on (e := (20, 75, .bool false)) 20 rfl rfl (hon 20 (by kernel_rfl)) rfl
            replace ha := Aside0.mk ha
            have HBr := Aside0.mk Q_HBr
            have FX := Aside0.mk Q_FX
            have FA := Aside0.mk Q_FA
            have z2_ : w'.cell? ⟨xb, 2, none⟩ = some (.int .i64 X.f0.f2) := (blk_cell (FX.out) 2).trans rfl
            refine value_ (w1 := w') (v := .int .i64 X.f0.f2) (wanted_on rfl rfl rfl (e75.trans (by first | rfl | (simp [*]; done)))) rfl ?_ ?_
            · go_simp
              (try simp only [i64_w])
              try rfl
            refine hK.out _ _ ⟨(by rw [ha.out]; exact putSel_upk 29 hb_ rfl rfl rfl), Q_HBr, Q_FX, Q_FA⟩
          refine steps_cons ?_ ?_
          · rintro b a w' ⟨ha, Q_HBr, Q_FX, Q_FA⟩ hb_ hon hoff
            refine ⟨_, rfl, fun K hK => ?_⟩
            have e81 : a.tmps[81]? = some (.int .i64 y.f0) := by rw [ha]; exact putSel_on (e := (26, 81, .int .i64 y.f0)) 26 rfl rfl (hon 26 (by kernel_rfl)) rfl
            have e84 : a.tmps[84]? = some (.int .i64 X.f0.f2) := by rw [ha]; exact putSel_on (e := (29, 84, .int .i64 X.f0.f2)) 29 rfl rfl (hon 29 (by kernel_rfl)) rfl
            have e75 : a.tmps[75]? = some (.bool false) := by rw [ha]; exact putSel_on (e := (20, 75, .bool false)) 20 rfl rfl (hon 20 (by kernel_rfl)) rfl
            replace ha := Aside0.mk ha
            have HBr := Aside0.mk Q_HBr
            have FX := Aside0.mk Q_FX
            have FA := Aside0.mk Q_FA
            have z1_ := YA.out
            have z2_ := YB.out
            refine value_ (w1 := w') (v := .bool false) (wanted_on rfl rfl rfl (e75.trans (by first | rfl | (simp [*]; done)))) rfl ?_ ?_
            · go_simp
              (try simp only [i64_w])
              try rfl
            refine hK.out _ _ ⟨(by rw [ha.out]; exact putSel_upk 30 hb_ rfl rfl rfl), Q_HBr, Q_FX, Q_FA⟩
          refine steps_cons ?_ ?_
          · rintro b a w' ⟨ha, Q_HBr, Q_FX, Q_FA⟩ hb_ hon hoff
            refine ⟨_, rfl, fun K hK => ?_⟩
            have e75 : a.tmps[75]? = some (.bool false) := by rw [ha]; exact putSel_on (e := (20, 75, .bool false)) 20 rfl rfl (hon 20 (by kernel_rfl)) rfl
            have e85 : a.tmps[85]? = some (.bool false) := by rw [ha]; exact putSel_on (e := (30, 85, .bool false)) 30 rfl rfl (hon 30 (by kernel_rfl)) rfl
            replace ha := Aside0.mk ha
            have HBr := Aside0.mk Q_HBr
            have FX := Aside0.mk Q_FX
            have FA := Aside0.mk Q_FA
            refine value_ (w1 := w') (v := .bool false) ?cA ?cB ?_ ?_
            case cA => rfl
            case cB => rfl
            · go_simp
              (try simp only [i64_w])
              try rfl
            refine hK.out _ _ ⟨(by rw [ha.out]; exact putSel_upk 31 hb_ rfl rfl rfl), Q_HBr, Q_FX, Q_FA⟩
          exact steps_nil
        rintro b a w' hall ⟨ha, Q_HBr, Q_FX, Q_FA⟩
        clear FA FX HBr
        have hb0_ := hall 0 (by kernel_rfl)
        have hb1_ := hall 1 (by kernel_rfl)
        have hb2_ := hall 2 (by kernel_rfl)
        have hb3_ := hall 3 (by kernel_rfl)
        have hb4_ := hall 4 (by kernel_rfl)
        have hb5_ := hall 5 (by kernel_rfl)
        have hb6_ := hall 6 (by kernel_rfl)
        have hb7_ := hall 7 (by kernel_rfl)
        have hb8_ := hall 8 (by kernel_rfl)
        have hb9_ := hall 9 (by kernel_rfl)
        have hb10_ := hall 10 (by kernel_rfl)
        have hb11_ := hall 11 (by kernel_rfl)
        have hb12_ := hall 12 (by kernel_rfl)
        have hb13_ := hall 13 (by kernel_rfl)
        have hb14_ := hall 14 (by kernel_rfl)
        have hb15_ := hall 15 (by kernel_rfl)
        have hb16_ := hall 16 (by kernel_rfl)
        have hb17_ := hall 17 (by kernel_rfl)
        have hb18_ := hall 18 (by kernel_rfl)
        have hb19_ := hall 19 (by kernel_rfl)
        have hb20_ := hall 20 (by kernel_rfl)
        have hb21_ := hall 21 (by kernel_rfl)
        have hb22_ := hall 22 (by kernel_rfl)
        have hb23_ := hall 23 (by kernel_rfl)
        have hb24_ := hall 24 (by kernel_rfl)
        have hb25_ := hall 25 (by kernel_rfl)
        have hb26_ := hall 26 (by kernel_rfl)
        have hb27_ := hall 27 (by kernel_rfl)
        have hb28_ := hall 28 (by kernel_rfl)
        have hb29_ := hall 29 (by kernel_rfl)
        have hb30_ := hall 30 (by kernel_rfl)
        have hb31_ := hall 31 (by kernel_rfl)
        subst ha
        simp only [putSel, hb0_, hb1_, hb2_, hb3_, hb4_, hb5_, hb6_, hb7_, hb8_, hb9_, hb10_, hb11_, hb12_, hb13_, hb14_, hb15_, hb16_, hb17_, hb18_, hb19_, hb20_, hb21_, hb22_, hb23_, hb24_, hb25_, hb26_, hb27_, hb28_, hb29_, hb30_, hb31_, if_true, Act.put, List.setIfInBounds_toArray, List.set_cons_zero, List.set_cons_succ]
        have HBr := Aside0.mk Q_HBr
        clear Q_HBr
        have FX := Aside0.mk Q_FX
        clear Q_FX
        have FA := Aside0.mk Q_FA
        clear Q_FA
        clear hall hb0_ hb1_ hb2_ hb3_ hb4_ hb5_ hb6_ hb7_ hb8_ hb9_ hb10_ hb11_ hb12_ hb13_ hb14_ hb15_ hb16_ hb17_ hb18_ hb19_ hb20_ hb21_ hb22_ hb23_ hb24_ hb25_ hb26_ hb27_ hb28_ hb29_ hb30_ hb31_
        go_wp2
        go_roundw
        case rel => exact ⟨k + 1, by omega, by go_num, below_step HB.out HBr.out, FX.out, Kd.C_below FC.out HBr.out⟩
        case measure => simp [intOf]; omega
      · go_wp2
        go_ret
        exact ⟨rfl, HB.out⟩
  · have hz : (s.size : Int) > 16384 := by omega
    go_wp2
    go_ret
    exact ⟨rfl, HB.out⟩
end Go.Proofs.YtlcfkdglknkbdaaDoor.Lo
