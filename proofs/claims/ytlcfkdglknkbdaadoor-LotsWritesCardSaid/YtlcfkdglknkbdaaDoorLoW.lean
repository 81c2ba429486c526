/- lots: LotsWrites. (Partly printed by gen_writes.py.) -/
import Derived.Test.YtlcfkdglknkbdaaDoorLoV
namespace Go.Proofs.YtlcfkdglknkbdaaDoor.Lo
open Go.RowKit Go.Proofs.YtlcfkdglknkbdaaDoorW.PrintWords Go.Proofs.YtlcfkdglknkbdaaDoorW.PrintLast Go.Proofs.YtlcfkdglknkbdaaDoorW.PrintMore Go.Proofs.YtlcfkdglknkbdaaDoor.X
set_option linter.unusedVariables false
set_option linter.unusedSimpArgs false
attribute [local go_sem high] eqA37 eqA35 eqA24

def wria.T7 : Bool × List (List Nat × List Nat) := (true, [([], []), ([], []), ([0, 1], [0, 1]), ([2], [2]), ([3], [3]), ([4, 3], [3, 4]), ([3], [3]), ([5, 6, 3], [3, 5, 6]), ([3, 7], [3, 7]), ([8, 3], [8]), ([9], [9]), ([10, 9], [9, 10]), ([11, 9, 9], [9, 11]), ([12], [12]), ([12], [12]), ([13, 14, 12, 12], [12, 13, 14]), ([12, 15, 9], [9, 12, 15]), ([9, 16], [9, 16]), ([17, 15], [17]), ([18], [18]), ([19, 18, 18], [18, 19]), ([18], [18]), ([21, 20, 18], [18, 21]), ([20, 22, 18], [18, 20, 22]), ([18, 23], [18, 23]), ([24, 22], [24]), ([25], [25]), ([25], [25]), ([26, 27, 25, 25], [25, 26, 27]), ([25], [25]), ([25], [25]), ([29, 30, 28, 25], [25, 29, 30]), ([28, 31, 25], [25, 28, 31]), ([25, 32], [25, 32]), ([33, 31, 0, 1, 2, 3, 4, 5, 6, 7, 8, 9, 10, 11, 12, 13, 14, 15, 16, 17, 18, 19, 20, 21, 22, 23, 24, 25, 26, 27, 28, 29, 30, 31, 32, 33], [33])])
def wria.B7 : List Nat := [0, 0, 3, 7, 15, 31, 15, 127, 255, 511, 1023, 2047, 4095, 8191, 8191, 32767, 65535, 131071, 262143, 524287, 1048575, 524287, 4194303, 8388607, 16777215, 33554431, 67108863, 67108863, 268435455, 67108863, 67108863, 2147483647, 4294967295, 8589934591, 17179869183]
theorem wria.tab7 : rtab .any (opsOf Tryd.f7 7) = wria.T7 := by kernel_rfl
theorem wria.bits7 : waitsOk wria.T7.2 wria.B7 = true := by kernel_rfl
def wrib.T7 : Bool × List (List Nat × List Nat) := (true, [([], []), ([], []), ([0, 1], [0, 1]), ([2], [2]), ([3], [3]), ([4, 3], [3, 4]), ([3], [3]), ([5, 6, 3], [3, 5, 6]), ([3, 7], [3, 7]), ([8, 3], [8]), ([9], [9]), ([10, 9], [9, 10]), ([11, 9, 9], [9, 11]), ([12], [12]), ([12], [12]), ([13, 14, 12, 12], [12, 13, 14]), ([12, 15, 9], [9, 12, 15]), ([9, 16], [9, 16]), ([17, 15], [17]), ([18], [18]), ([19, 18, 18], [18, 19]), ([18], [18]), ([21, 20, 18], [18, 21]), ([20, 22, 18], [18, 20, 22]), ([18, 23], [18, 23]), ([24, 22], [24]), ([25], [25]), ([25], [25]), ([26, 27, 25, 25], [25, 26, 27]), ([25], [25]), ([25], [25]), ([29, 30, 28, 25], [25, 29, 30]), ([28, 31, 25], [25, 28, 31]), ([25, 32], [25, 32]), ([33, 31, 0, 1, 2, 3, 4, 5, 6, 7, 8, 9, 10, 11, 12, 13, 14, 15, 16, 17, 18, 19, 20, 21, 22, 23, 24, 25, 26, 27, 28, 29, 30, 31, 32, 33], [33])])
def wrib.B7 : List Nat := [0, 0, 3, 7, 15, 31, 15, 127, 255, 511, 1023, 2047, 4095, 8191, 8191, 32767, 65535, 131071, 262143, 524287, 1048575, 524287, 4194303, 8388607, 16777215, 33554431, 67108863, 67108863, 268435455, 67108863, 67108863, 2147483647, 4294967295, 8589934591, 17179869183]
theorem wrib.tab7 : rtab .any (opsOf Tryd.f7 7) = wrib.T7 := by kernel_rfl
theorem wrib.bits7 : waitsOk wrib.T7.2 wrib.B7 = true := by kernel_rfl
set_option maxHeartbeats 8000000 in
set_option maxRecDepth 100000 in
theorem writes_walk {u v : Value} (x y : S28) (aA : Addr) (W : World) (hu : SV W x u) (hv : SV W y v) (hA : W.cell? gArg = some (Sent aA)) :
    Calls Tryd.prog 7 #[u, v] W fun e w' => e = .returned (.bool true) ∧ Below W.heap.size W w' := by
  obtain ⟨w, hw⟩ : ∃ w, w = W := ⟨_, rfl⟩
  rw [← hw] at hu hv hA ⊢
  clear hw
  have hu' := hu
  have hv' := hv
  obtain ⟨A5, c5, A6, c6, rfl, _, _, _, _⟩ := hu'
  obtain ⟨B5, d5, B6, d6, rfl, _, _, _, _⟩ := hv'
  have h1 := Tryd.underlying24
  have h2 := Tryd.underlying28
  obtain ⟨x5, hn5⟩ : ∃ n, n = x.f1.length := ⟨_, rfl⟩
  obtain ⟨x6, hn6⟩ : ∃ n, n = x.f2.length := ⟨_, rfl⟩
  obtain ⟨y5, hm5⟩ : ∃ n, n = y.f1.length := ⟨_, rfl⟩
  obtain ⟨y6, hm6⟩ : ∃ n, n = y.f2.length := ⟨_, rfl⟩
  rw [← hn5, ← hn6] at hu ⊢
  rw [← hm5, ← hm6] at hv ⊢
  clear hn5 hn6 hm5 hm6
  have hsz : (w.alloc (.cells #[.int .i64 x.f0.f0, .int .i64 x.f0.f1, .int .i64 x.f0.f2, .int .i64 x.f0.f3, .int .i64 x.f0.f4, .slice A5 x5 c5, .slice A6 x6 c6] 28)).heap.size = w.heap.size + 1 := by unfold World.alloc; exact Array.size_push _
  have hY := blk_new (w.alloc (.cells #[.int .i64 x.f0.f0, .int .i64 x.f0.f1, .int .i64 x.f0.f2, .int .i64 x.f0.f3, .int .i64 x.f0.f4, .slice A5 x5 c5, .slice A6 x6 c6] 28)) (.cells #[.int .i64 y.f0.f0, .int .i64 y.f0.f1, .int .i64 y.f0.f2, .int .i64 y.f0.f3, .int .i64 y.f0.f4, .slice B5 y5 d5, .slice B6 y6 d6] 28)
  rw [hsz] at hY
  have hX := blk_below (below_alloc (Below.refl _ _) (.cells #[.int .i64 y.f0.f0, .int .i64 y.f0.f1, .int .i64 y.f0.f2, .int .i64 y.f0.f3, .int .i64 y.f0.f4, .slice B5 y5 d5, .slice B6 y6 d6] 28)) (blk_new w (.cells #[.int .i64 x.f0.f0, .int .i64 x.f0.f1, .int .i64 x.f0.f2, .int .i64 x.f0.f3, .int .i64 x.f0.f4, .slice A5 x5 c5, .slice A6 x6 c6] 28))
  have hb := below_alloc (below_alloc (Below.refl w.heap.size w) (.cells #[.int .i64 x.f0.f0, .int .i64 x.f0.f1, .int .i64 x.f0.f2, .int .i64 x.f0.f3, .int .i64 x.f0.f4, .slice A5 x5 c5, .slice A6 x6 c6] 28)) (.cells #[.int .i64 y.f0.f0, .int .i64 y.f0.f1, .int .i64 y.f0.f2, .int .i64 y.f0.f3, .int .i64 y.f0.f4, .slice B5 y5 d5, .slice B6 y6 d6] 28)
  have SX := Aside0.mk (SV_below hu hb)
  have SY := Aside0.mk (SV_below hv hb)
  have FX := Aside0.mk hX
  have FY := Aside0.mk hY
  have HB := Aside0.mk hb
  have HA := Aside0.mk hA
  clear hsz hY hX hb hu hv hA
  go_enter Tryd.func7, Tryd.ntmps7
  go_wp2_with fail
  refine (awake_c aA _ (pw_cell_below HB.out HA.out)).mono ?_
  rintro e w2 ⟨rfl, hb⟩
  obtain ⟨xb, hxb⟩ : ∃ n, n = w.heap.size := ⟨_, rfl⟩
  obtain ⟨yb, hyb⟩ : ∃ n, n = w.heap.size + 1 := ⟨_, rfl⟩
  rw [← hxb] at FX
  rw [← hyb] at FY
  replace FX := Aside0.mk (blk_below hb FX.out)
  replace FY := Aside0.mk (blk_below hb FY.out)
  replace SX := Aside0.mk (SV_below SX.out hb)
  replace SY := Aside0.mk (SV_below SY.out hb)
  replace HB := Aside0.mk (below_step HB.out hb)
  clear hb
  rw [← hyb, ← hxb]
  clear hxb hyb
  have x0_ := (blk_cell FX.out 0).trans rfl
  have x1_ := (blk_cell FX.out 1).trans rfl
  have x2_ := (blk_cell FX.out 2).trans rfl
  have x3_ := (blk_cell FX.out 3).trans rfl
  have x4_ := (blk_cell FX.out 4).trans rfl
  have x5_ := (blk_cell FX.out 5).trans rfl
  have x6_ := (blk_cell FX.out 6).trans rfl
  have y5_ := (blk_cell FY.out 5).trans rfl
  have y6_ := (blk_cell FY.out 6).trans rfl
  by_cases k1 : x5 ≤ 100
  · have ik1 : ¬ (x5 : Int) > 100 := by omega
    by_cases k2 : x6 ≤ 5000
    · have ik2 : ¬ (x6 : Int) > 5000 := by omega
      by_cases k3 : y5 ≤ 100
      · have ik3 : ¬ (y5 : Int) > 100 := by omega
        by_cases k4 : y6 ≤ 5000
        · have ik4 : ¬ (y6 : Int) > 5000 := by omega
          obtain ⟨gg, hgg⟩ : ∃ b, b = goodB x := ⟨_, rfl⟩
          obtain ⟨bb, hbb⟩ : ∃ b, b = sameB x y := ⟨_, rfl⟩
          have HGG := Aside0.mk hgg.symm
          have HBB := Aside0.mk hbb.symm
          clear hgg hbb
          go_wp2_with fail
          refine (enc_c SX.out aA (pw_cell_below HB.out HA.out)).mono ?_
          rintro e w3 ⟨sx, ex, rfl, hx1, hx2, hb⟩
          replace FX := Aside0.mk (blk_below hb FX.out)
          replace FY := Aside0.mk (blk_below hb FY.out)
          replace SX := Aside0.mk (SV_below SX.out hb)
          replace SY := Aside0.mk (SV_below SY.out hb)
          replace HB := Aside0.mk (below_step HB.out hb)
          clear hb
          clear x0_ x1_ x2_ x3_ x4_ x5_ x6_ y5_ y6_
          have x0_ := (blk_cell FX.out 0).trans rfl
          have x1_ := (blk_cell FX.out 1).trans rfl
          have x2_ := (blk_cell FX.out 2).trans rfl
          have x3_ := (blk_cell FX.out 3).trans rfl
          have x4_ := (blk_cell FX.out 4).trans rfl
          have x5_ := (blk_cell FX.out 5).trans rfl
          have x6_ := (blk_cell FX.out 6).trans rfl
          go_wp2_with fail
          refine (renc_c SX.out).mono ?_
          rintro e w4 ⟨sy, ey, rfl, hy1, hy2, hb⟩
          cases hx : encB x
          · obtain ⟨rfl, hv⟩ := hx2 hx
            obtain ⟨rfl, rfl⟩ := hy2 hx
            obtain ⟨gz, pz, rfl, hgz⟩ := hv
            have FV : Aside0 (Ats w4 aA (AtPlace gz)) := Aside0.mk (Ats_below ⟨gz, pz, rfl, hgz⟩ hb)
            replace FX := Aside0.mk (blk_below hb FX.out)
            replace FY := Aside0.mk (blk_below hb FY.out)
            replace SX := Aside0.mk (SV_below SX.out hb)
            replace SY := Aside0.mk (SV_below SY.out hb)
            replace HB := Aside0.mk (below_step HB.out hb)
            clear hgz hx1 hx2 hy1 hy2 hx x0_ x1_ x2_ x3_ x4_ x5_ x6_
            clear hb
            have FA := Aside0.mk (pw_cell_below HB.out HA.out)
            go_wp2
            refine start_ (n := 35) (S := fun w' => True) (ds := []) #[false, false, false, false, false, false, false, false, false, false, false, false, false, false, false, false, false, false, false, false, false, false, false, false, false, false, false, false, false, false, false, false, false, false, false] (by kernel_rfl) rfl rfl trivial (fun hHeld => ?_)
            refine with_tabW wrib.tab7 wrib.bits7 (fun HT_ HW_ => ?_)
            have HBr := Aside0.mk (below_drew1 HB.out)
            refine inv_at [0, 1, 2, 3, 4, 5, 6, 7, 8, 9, 10, 11, 12, 13, 14, 15, 16, 17, 18, 19, 20, 21, 22, 23, 24, 25, 26, 27, 28, 29, 30, 31, 32, 33, 34] (fun a0_ b a w' => a = putSel a0_ b [(0, 43, .string ⟨#[]⟩), (1, 44, .string ⟨#[]⟩), (2, 45, .bool true), (3, 46, .bool true), (4, 47, .iface 86 (.pointer (some ⟨gz, 0, none⟩))), (5, 48, .bool false), (6, 49, .bool false), (7, 50, .bool true), (8, 51, .bool true), (9, 52, .bool true), (10, 53, .iface 86 (.pointer (some ⟨gz, 0, none⟩))), (11, 54, .bool false), (12, 55, .bool false), (13, 56, .iface 86 (.pointer (some ⟨gz, 0, none⟩))), (14, 57, Sent aA), (15, 58, .bool true), (16, 59, .bool true), (17, 60, .bool true), (18, 61, .bool true), (19, 62, .agg #[.int .i64 x.f0.f0, .int .i64 x.f0.f1, .int .i64 x.f0.f2, .int .i64 x.f0.f3, .int .i64 x.f0.f4, .slice A5 x5 c5, .slice A6 x6 c6]), (20, 63, .bool gg), (21, 64, .agg #[.int .i64 x.f0.f0, .int .i64 x.f0.f1, .int .i64 x.f0.f2, .int .i64 x.f0.f3, .int .i64 x.f0.f4, .slice A5 x5 c5, .slice A6 x6 c6]), (22, 65, .bool gg), (23, 66, .bool true), (24, 67, .bool true), (25, 68, .bool true), (26, 69, .agg #[.int .i64 x.f0.f0, .int .i64 x.f0.f1, .int .i64 x.f0.f2, .int .i64 x.f0.f3, .int .i64 x.f0.f4, .slice A5 x5 c5, .slice A6 x6 c6]), (27, 70, .agg #[.int .i64 y.f0.f0, .int .i64 y.f0.f1, .int .i64 y.f0.f2, .int .i64 y.f0.f3, .int .i64 y.f0.f4, .slice B5 y5 d5, .slice B6 y6 d6]), (28, 71, .bool bb), (29, 72, .agg #[.int .i64 x.f0.f0, .int .i64 x.f0.f1, .int .i64 x.f0.f2, .int .i64 x.f0.f3, .int .i64 x.f0.f4, .slice A5 x5 c5, .slice A6 x6 c6]), (30, 73, .agg #[.int .i64 y.f0.f0, .int .i64 y.f0.f1, .int .i64 y.f0.f2, .int .i64 y.f0.f3, .int .i64 y.f0.f4, .slice B5 y5 d5, .slice B6 y6 d6]), (31, 74, .bool bb), (32, 75, .bool true), (33, 76, .bool true), (34, 4, .bool true)] ∧ (Below w.heap.size w w') ∧ (w'.heap[xb]? = some (.cells #[.int .i64 x.f0.f0, .int .i64 x.f0.f1, .int .i64 x.f0.f2, .int .i64 x.f0.f3, .int .i64 x.f0.f4, .slice A5 x5 c5, .slice A6 x6 c6] 28 (0, 0))) ∧ (w'.heap[yb]? = some (.cells #[.int .i64 y.f0.f0, .int .i64 y.f0.f1, .int .i64 y.f0.f2, .int .i64 y.f0.f3, .int .i64 y.f0.f4, .slice B5 y5 d5, .slice B6 y6 d6] 28 (0, 0))) ∧ (SV w' x (.agg #[.int .i64 x.f0.f0, .int .i64 x.f0.f1, .int .i64 x.f0.f2, .int .i64 x.f0.f3, .int .i64 x.f0.f4, .slice A5 x5 c5, .slice A6 x6 c6])) ∧ (SV w' y (.agg #[.int .i64 y.f0.f0, .int .i64 y.f0.f1, .int .i64 y.f0.f2, .int .i64 y.f0.f3, .int .i64 y.f0.f4, .slice B5 y5 d5, .slice B6 y6 d6])) ∧ (w'.cell? gArg = some (Sent aA)) ∧ (Ats w' aA (.iface 86 (.pointer (some ⟨gz, 0, none⟩))))) HT_.out HW_.out (by kernel_rfl) (by kernel_rfl) ?_ ?_ ?_
            · exact ⟨by simp only [putSel, Bool.false_eq_true, if_false], HBr.out, FX.out, FY.out, SV_below SX.out (below_drew (Below.refl _ _)), SV_below SY.out (below_drew (Below.refl _ _)), pw_cell_below (below_drew (Below.refl _ _)) FA.out, Ats_below FV.out (below_drew (Below.refl _ _))⟩
            · skip
              clear FA FV FX FY HBr SX SY
              refine steps_cons ?_ ?_
              · rintro b a w' ⟨ha, Q_HBr, Q_FX, Q_FY, Q_SX, Q_SY, Q_FA, Q_FV⟩ hb_ hon hoff
                refine ⟨_, rfl, fun K hK => ?_⟩
                have e5 : a.tmps[5]? = some (.string ⟨#[]⟩) := by rw [ha]; exact (putSel_off rfl).trans rfl
                replace ha := Aside0.mk ha
                have HBr := Aside0.mk Q_HBr
                have FX := Aside0.mk Q_FX
                have FY := Aside0.mk Q_FY
                have SX := Aside0.mk Q_SX
                have SY := Aside0.mk Q_SY
                have FA := Aside0.mk Q_FA
                have FV := Aside0.mk Q_FV
                refine value_ (w1 := w') (v := .string ⟨#[]⟩) ?cA ?cB ?_ ?_
                case cA => rfl
                case cB => rfl
                · go_simp
                  (try simp only [i64_w])
                  try rfl
                refine hK.out _ _ ⟨(by rw [ha.out]; exact putSel_upk 0 hb_ rfl rfl rfl), Q_HBr, Q_FX, Q_FY, Q_SX, Q_SY, Q_FA, Q_FV⟩
              refine steps_cons ?_ ?_
              · rintro b a w' ⟨ha, Q_HBr, Q_FX, Q_FY, Q_SX, Q_SY, Q_FA, Q_FV⟩ hb_ hon hoff
                refine ⟨_, rfl, fun K hK => ?_⟩
                have e7 : a.tmps[7]? = some (.string ⟨#[]⟩) := by rw [ha]; exact (putSel_off rfl).trans rfl
                replace ha := Aside0.mk ha
                have HBr := Aside0.mk Q_HBr
                have FX := Aside0.mk Q_FX
                have FY := Aside0.mk Q_FY
                have SX := Aside0.mk Q_SX
                have SY := Aside0.mk Q_SY
                have FA := Aside0.mk Q_FA
                have FV := Aside0.mk Q_FV
                refine value_ (w1 := w') (v := .string ⟨#[]⟩) ?cA ?cB ?_ ?_
                case cA => rfl
                case cB => rfl
                · go_simp
                  (try simp only [i64_w])
                  try rfl
                refine hK.out _ _ ⟨(by rw [ha.out]; exact putSel_upk 1 hb_ rfl rfl rfl), Q_HBr, Q_FX, Q_FY, Q_SX, Q_SY, Q_FA, Q_FV⟩
              refine steps_cons ?_ ?_
              · rintro b a w' ⟨ha, Q_HBr, Q_FX, Q_FY, Q_SX, Q_SY, Q_FA, Q_FV⟩ hb_ hon hoff
                refine ⟨_, rfl, fun K hK => ?_⟩
                have e43 : a.tmps[43]? = some (.string ⟨#[]⟩) := by rw [ha]; exact putSel_on (e := (0, 43, .string ⟨#[]⟩)) 0 rfl rfl (hon 0 (by kernel_rfl)) rfl
                have e44 : a.tmps[44]? = some (.string ⟨#[]⟩) := by rw [ha]; exact putSel_on (e := (1, 44, .string ⟨#[]⟩)) 1 rfl rfl (hon 1 (by kernel_rfl)) rfl
                replace ha := Aside0.mk ha
                have HBr := Aside0.mk Q_HBr
                have FX := Aside0.mk Q_FX
                have FY := Aside0.mk Q_FY
                have SX := Aside0.mk Q_SX
                have SY := Aside0.mk Q_SY
                have FA := Aside0.mk Q_FA
                have FV := Aside0.mk Q_FV
                refine value_ (w1 := w') (v := .bool true) ?cA ?cB ?_ ?_
                case cA => rfl
                case cB => rfl
                · go_simp
                  (try simp only [i64_w])
                  try rfl
                refine hK.out _ _ ⟨(by rw [ha.out]; exact putSel_upk 2 hb_ rfl rfl rfl), Q_HBr, Q_FX, Q_FY, Q_SX, Q_SY, Q_FA, Q_FV⟩
              refine steps_cons ?_ ?_
              · rintro b a w' ⟨ha, Q_HBr, Q_FX, Q_FY, Q_SX, Q_SY, Q_FA, Q_FV⟩ hb_ hon hoff
                refine ⟨_, rfl, fun K hK => ?_⟩
                have e45 : a.tmps[45]? = some (.bool true) := by rw [ha]; exact putSel_on (e := (2, 45, .bool true)) 2 rfl rfl (hon 2 (by kernel_rfl)) rfl
                replace ha := Aside0.mk ha
                have HBr := Aside0.mk Q_HBr
                have FX := Aside0.mk Q_FX
                have FY := Aside0.mk Q_FY
                have SX := Aside0.mk Q_SX
                have SY := Aside0.mk Q_SY
                have FA := Aside0.mk Q_FA
                have FV := Aside0.mk Q_FV
                refine value_ (w1 := w') (v := .bool true) ?cA ?cB ?_ ?_
                case cA => rfl
                case cB => rfl
                · go_simp
                  (try simp only [i64_w])
                  try rfl
                refine hK.out _ _ ⟨(by rw [ha.out]; exact putSel_upk 3 hb_ rfl rfl rfl), Q_HBr, Q_FX, Q_FY, Q_SX, Q_SY, Q_FA, Q_FV⟩
              refine steps_cons ?_ ?_
              · rintro b a w' ⟨ha, Q_HBr, Q_FX, Q_FY, Q_SX, Q_SY, Q_FA, Q_FV⟩ hb_ hon hoff
                refine ⟨_, rfl, fun K hK => ?_⟩
                have e6 : a.tmps[6]? = some (.iface 86 (.pointer (some ⟨gz, 0, none⟩))) := by rw [ha]; exact (putSel_off rfl).trans rfl
                have e46 : a.tmps[46]? = some (.bool true) := by rw [ha]; exact putSel_on (e := (3, 46, .bool true)) 3 rfl rfl (hon 3 (by kernel_rfl)) rfl
                replace ha := Aside0.mk ha
                have HBr := Aside0.mk Q_HBr
                have FX := Aside0.mk Q_FX
                have FY := Aside0.mk Q_FY
                have SX := Aside0.mk Q_SX
                have SY := Aside0.mk Q_SY
                have FA := Aside0.mk Q_FA
                have FV := Aside0.mk Q_FV
                refine value_ (w1 := w') (v := .iface 86 (.pointer (some ⟨gz, 0, none⟩))) (wanted_on rfl rfl rfl (e46.trans (by first | rfl | (simp [*]; done)))) rfl ?_ ?_
                · go_simp
                  (try simp only [i64_w])
                  try rfl
                refine hK.out _ _ ⟨(by rw [ha.out]; exact putSel_upk 4 hb_ rfl rfl rfl), Q_HBr, Q_FX, Q_FY, Q_SX, Q_SY, Q_FA, Q_FV⟩
              refine steps_cons ?_ ?_
              · rintro b a w' ⟨ha, Q_HBr, Q_FX, Q_FY, Q_SX, Q_SY, Q_FA, Q_FV⟩ hb_ hon hoff
                refine ⟨_, rfl, fun K hK => ?_⟩
                have e47 : a.tmps[47]? = some (.iface 86 (.pointer (some ⟨gz, 0, none⟩))) := by rw [ha]; exact putSel_on (e := (4, 47, .iface 86 (.pointer (some ⟨gz, 0, none⟩)))) 4 rfl rfl (hon 4 (by kernel_rfl)) rfl
                have e46 : a.tmps[46]? = some (.bool true) := by rw [ha]; exact putSel_on (e := (3, 46, .bool true)) 3 rfl rfl (hon 3 (by kernel_rfl)) rfl
                replace ha := Aside0.mk ha
                have HBr := Aside0.mk Q_HBr
                have FX := Aside0.mk Q_FX
                have FY := Aside0.mk Q_FY
                have SX := Aside0.mk Q_SX
                have SY := Aside0.mk Q_SY
                have FA := Aside0.mk Q_FA
                have FV := Aside0.mk Q_FV
                refine value_ (w1 := w') (v := .bool false) (wanted_on rfl rfl rfl (e46.trans (by first | rfl | (simp [*]; done)))) rfl ?_ ?_
                · go_simp
                  (try simp only [i64_w])
                  try rfl
                refine hK.out _ _ ⟨(by rw [ha.out]; exact putSel_upk 5 hb_ rfl rfl rfl), Q_HBr, Q_FX, Q_FY, Q_SX, Q_SY, Q_FA, Q_FV⟩
              refine steps_cons ?_ ?_
              · rintro b a w' ⟨ha, Q_HBr, Q_FX, Q_FY, Q_SX, Q_SY, Q_FA, Q_FV⟩ hb_ hon hoff
                refine ⟨_, rfl, fun K hK => ?_⟩
                have e8 : a.tmps[8]? = some (.bool false) := by rw [ha]; exact (putSel_off rfl).trans rfl
                have e46 : a.tmps[46]? = some (.bool true) := by rw [ha]; exact putSel_on (e := (3, 46, .bool true)) 3 rfl rfl (hon 3 (by kernel_rfl)) rfl
                replace ha := Aside0.mk ha
                have HBr := Aside0.mk Q_HBr
                have FX := Aside0.mk Q_FX
                have FY := Aside0.mk Q_FY
                have SX := Aside0.mk Q_SX
                have SY := Aside0.mk Q_SY
                have FA := Aside0.mk Q_FA
                have FV := Aside0.mk Q_FV
                refine value_ (w1 := w') (v := .bool false) (wanted_on rfl rfl rfl (e46.trans (by first | rfl | (simp [*]; done)))) rfl ?_ ?_
                · go_simp
                  (try simp only [i64_w])
                  try rfl
                refine hK.out _ _ ⟨(by rw [ha.out]; exact putSel_upk 6 hb_ rfl rfl rfl), Q_HBr, Q_FX, Q_FY, Q_SX, Q_SY, Q_FA, Q_FV⟩
              refine steps_cons ?_ ?_
              · rintro b a w' ⟨ha, Q_HBr, Q_FX, Q_FY, Q_SX, Q_SY, Q_FA, Q_FV⟩ hb_ hon hoff
                refine ⟨_, rfl, fun K hK => ?_⟩
                have e48 : a.tmps[48]? = some (.bool false) := by rw [ha]; exact putSel_on (e := (5, 48, .bool false)) 5 rfl rfl (hon 5 (by kernel_rfl)) rfl
                have e49 : a.tmps[49]? = some (.bool false) := by rw [ha]; exact putSel_on (e := (6, 49, .bool false)) 6 rfl rfl (hon 6 (by kernel_rfl)) rfl
                have e46 : a.tmps[46]? = some (.bool true) := by rw [ha]; exact putSel_on (e := (3, 46, .bool true)) 3 rfl rfl (hon 3 (by kernel_rfl)) rfl
                replace ha := Aside0.mk ha
                have HBr := Aside0.mk Q_HBr
                have FX := Aside0.mk Q_FX
                have FY := Aside0.mk Q_FY
                have SX := Aside0.mk Q_SX
                have SY := Aside0.mk Q_SY
                have FA := Aside0.mk Q_FA
                have FV := Aside0.mk Q_FV
                refine value_ (w1 := w') (v := .bool true) (wanted_on rfl rfl rfl (e46.trans (by first | rfl | (simp [*]; done)))) rfl ?_ ?_
                · go_simp
                  (try simp only [i64_w])
                  try rfl
                refine hK.out _ _ ⟨(by rw [ha.out]; exact putSel_upk 7 hb_ rfl rfl rfl), Q_HBr, Q_FX, Q_FY, Q_SX, Q_SY, Q_FA, Q_FV⟩
              refine steps_cons ?_ ?_
              · rintro b a w' ⟨ha, Q_HBr, Q_FX, Q_FY, Q_SX, Q_SY, Q_FA, Q_FV⟩ hb_ hon hoff
                refine ⟨_, rfl, fun K hK => ?_⟩
                have e46 : a.tmps[46]? = some (.bool true) := by rw [ha]; exact putSel_on (e := (3, 46, .bool true)) 3 rfl rfl (hon 3 (by kernel_rfl)) rfl
                have e50 : a.tmps[50]? = some (.bool true) := by rw [ha]; exact putSel_on (e := (7, 50, .bool true)) 7 rfl rfl (hon 7 (by kernel_rfl)) rfl
                replace ha := Aside0.mk ha
                have HBr := Aside0.mk Q_HBr
                have FX := Aside0.mk Q_FX
                have FY := Aside0.mk Q_FY
                have SX := Aside0.mk Q_SX
                have SY := Aside0.mk Q_SY
                have FA := Aside0.mk Q_FA
                have FV := Aside0.mk Q_FV
                refine value_ (w1 := w') (v := .bool true) ?cA ?cB ?_ ?_
                case cA => rfl
                case cB => rfl
                · go_simp
                  (try simp only [i64_w])
                  try rfl
                refine hK.out _ _ ⟨(by rw [ha.out]; exact putSel_upk 8 hb_ rfl rfl rfl), Q_HBr, Q_FX, Q_FY, Q_SX, Q_SY, Q_FA, Q_FV⟩
              refine steps_cons ?_ ?_
              · rintro b a w' ⟨ha, Q_HBr, Q_FX, Q_FY, Q_SX, Q_SY, Q_FA, Q_FV⟩ hb_ hon hoff
                refine ⟨_, rfl, fun K hK => ?_⟩
                have e51 : a.tmps[51]? = some (.bool true) := by rw [ha]; exact putSel_on (e := (8, 51, .bool true)) 8 rfl rfl (hon 8 (by kernel_rfl)) rfl
                replace ha := Aside0.mk ha
                have HBr := Aside0.mk Q_HBr
                have FX := Aside0.mk Q_FX
                have FY := Aside0.mk Q_FY
                have SX := Aside0.mk Q_SX
                have SY := Aside0.mk Q_SY
                have FA := Aside0.mk Q_FA
                have FV := Aside0.mk Q_FV
                refine value_ (w1 := w') (v := .bool true) ?cA ?cB ?_ ?_
                case cA => rfl
                case cB => rfl
                · go_simp
                  (try simp only [i64_w])
                  try rfl
                refine hK.out _ _ ⟨(by rw [ha.out]; exact putSel_upk 9 hb_ rfl rfl rfl), Q_HBr, Q_FX, Q_FY, Q_SX, Q_SY, Q_FA, Q_FV⟩
              refine steps_cons ?_ ?_
              · rintro b a w' ⟨ha, Q_HBr, Q_FX, Q_FY, Q_SX, Q_SY, Q_FA, Q_FV⟩ hb_ hon hoff
                refine ⟨_, rfl, fun K hK => ?_⟩
                have e6 : a.tmps[6]? = some (.iface 86 (.pointer (some ⟨gz, 0, none⟩))) := by rw [ha]; exact (putSel_off rfl).trans rfl
                have e52 : a.tmps[52]? = some (.bool true) := by rw [ha]; exact putSel_on (e := (9, 52, .bool true)) 9 rfl rfl (hon 9 (by kernel_rfl)) rfl
                replace ha := Aside0.mk ha
                have HBr := Aside0.mk Q_HBr
                have FX := Aside0.mk Q_FX
                have FY := Aside0.mk Q_FY
                have SX := Aside0.mk Q_SX
                have SY := Aside0.mk Q_SY
                have FA := Aside0.mk Q_FA
                have FV := Aside0.mk Q_FV
                refine value_ (w1 := w') (v := .iface 86 (.pointer (some ⟨gz, 0, none⟩))) (wanted_on rfl rfl rfl (e52.trans (by first | rfl | (simp [*]; done)))) rfl ?_ ?_
                · go_simp
                  (try simp only [i64_w])
                  try rfl
                refine hK.out _ _ ⟨(by rw [ha.out]; exact putSel_upk 10 hb_ rfl rfl rfl), Q_HBr, Q_FX, Q_FY, Q_SX, Q_SY, Q_FA, Q_FV⟩
              refine steps_cons ?_ ?_
              · rintro b a w' ⟨ha, Q_HBr, Q_FX, Q_FY, Q_SX, Q_SY, Q_FA, Q_FV⟩ hb_ hon hoff
                refine ⟨_, rfl, fun K hK => ?_⟩
                have e53 : a.tmps[53]? = some (.iface 86 (.pointer (some ⟨gz, 0, none⟩))) := by rw [ha]; exact putSel_on (e := (10, 53, .iface 86 (.pointer (some ⟨gz, 0, none⟩)))) 10 rfl rfl (hon 10 (by kernel_rfl)) rfl
                have e52 : a.tmps[52]? = some (.bool true) := by rw [ha]; exact putSel_on (e := (9, 52, .bool true)) 9 rfl rfl (hon 9 (by kernel_rfl)) rfl
                replace ha := Aside0.mk ha
                have HBr := Aside0.mk Q_HBr
                have FX := Aside0.mk Q_FX
                have FY := Aside0.mk Q_FY
                have SX := Aside0.mk Q_SX
                have SY := Aside0.mk Q_SY
                have FA := Aside0.mk Q_FA
                have FV := Aside0.mk Q_FV
                refine value_ (w1 := w') (v := .bool false) (wanted_on rfl rfl rfl (e52.trans (by first | rfl | (simp [*]; done)))) rfl ?_ ?_
                · go_simp
                  (try simp only [i64_w])
                  try rfl
                refine hK.out _ _ ⟨(by rw [ha.out]; exact putSel_upk 11 hb_ rfl rfl rfl), Q_HBr, Q_FX, Q_FY, Q_SX, Q_SY, Q_FA, Q_FV⟩
              refine steps_cons ?_ ?_
              · rintro b a w' ⟨ha, Q_HBr, Q_FX, Q_FY, Q_SX, Q_SY, Q_FA, Q_FV⟩ hb_ hon hoff
                refine ⟨_, rfl, fun K hK => ?_⟩
                have e54 : a.tmps[54]? = some (.bool false) := by rw [ha]; exact putSel_on (e := (11, 54, .bool false)) 11 rfl rfl (hon 11 (by kernel_rfl)) rfl
                have e52 : a.tmps[52]? = some (.bool true) := by rw [ha]; exact putSel_on (e := (9, 52, .bool true)) 9 rfl rfl (hon 9 (by kernel_rfl)) rfl
                replace ha := Aside0.mk ha
                have HBr := Aside0.mk Q_HBr
                have FX := Aside0.mk Q_FX
                have FY := Aside0.mk Q_FY
                have SX := Aside0.mk Q_SX
                have SY := Aside0.mk Q_SY
                have FA := Aside0.mk Q_FA
                have FV := Aside0.mk Q_FV
                refine value_ (w1 := w') (v := .bool false) (wanted_on rfl rfl rfl (e52.trans (by first | rfl | (simp [*]; done)))) rfl ?_ ?_
                · go_simp
                  (try simp only [i64_w])
                  try rfl
                refine hK.out _ _ ⟨(by rw [ha.out]; exact putSel_upk 12 hb_ rfl rfl rfl), Q_HBr, Q_FX, Q_FY, Q_SX, Q_SY, Q_FA, Q_FV⟩
              refine steps_cons ?_ ?_
              · rintro b a w' ⟨ha, Q_HBr, Q_FX, Q_FY, Q_SX, Q_SY, Q_FA, Q_FV⟩ hb_ hon hoff
                refine ⟨_, rfl, fun K hK => ?_⟩
                have e6 : a.tmps[6]? = some (.iface 86 (.pointer (some ⟨gz, 0, none⟩))) := by rw [ha]; exact (putSel_off rfl).trans rfl
                have e55 : a.tmps[55]? = some (.bool false) := by rw [ha]; exact putSel_on (e := (12, 55, .bool false)) 12 rfl rfl (hon 12 (by kernel_rfl)) rfl
                replace ha := Aside0.mk ha
                have HBr := Aside0.mk Q_HBr
                have FX := Aside0.mk Q_FX
                have FY := Aside0.mk Q_FY
                have SX := Aside0.mk Q_SX
                have SY := Aside0.mk Q_SY
                have FA := Aside0.mk Q_FA
                have FV := Aside0.mk Q_FV
                refine value_ (w1 := w') (v := .iface 86 (.pointer (some ⟨gz, 0, none⟩))) (wanted_on rfl rfl rfl (e55.trans (by first | rfl | (simp [*]; done)))) rfl ?_ ?_
                · go_simp
                  (try simp only [i64_w])
                  try rfl
                refine hK.out _ _ ⟨(by rw [ha.out]; exact putSel_upk 13 hb_ rfl rfl rfl), Q_HBr, Q_FX, Q_FY, Q_SX, Q_SY, Q_FA, Q_FV⟩
              refine steps_cons ?_ ?_
              · rintro b a w' ⟨ha, Q_HBr, Q_FX, Q_FY, Q_SX, Q_SY, Q_FA, Q_FV⟩ hb_ hon hoff
                refine ⟨_, rfl, fun K hK => ?_⟩
                have e55 : a.tmps[55]? = some (.bool false) := by rw [ha]; exact putSel_on (e := (12, 55, .bool false)) 12 rfl rfl (hon 12 (by kernel_rfl)) rfl
                replace ha := Aside0.mk ha
                have HBr := Aside0.mk Q_HBr
                have FX := Aside0.mk Q_FX
                have FY := Aside0.mk Q_FY
                have SX := Aside0.mk Q_SX
                have SY := Aside0.mk Q_SY
                have FA := Aside0.mk Q_FA
                have FV := Aside0.mk Q_FV
                have zg_ := FA.out
                refine value_ (w1 := w') (v := Sent aA) (wanted_on rfl rfl rfl (e55.trans (by first | rfl | (simp [*]; done)))) rfl ?_ ?_
                · go_simp
                  (try simp only [i64_w])
                  try rfl
                refine hK.out _ _ ⟨(by rw [ha.out]; exact putSel_upk 14 hb_ rfl rfl rfl), Q_HBr, Q_FX, Q_FY, Q_SX, Q_SY, Q_FA, Q_FV⟩
              refine steps_cons ?_ ?_
              · rintro b a w' ⟨ha, Q_HBr, Q_FX, Q_FY, Q_SX, Q_SY, Q_FA, Q_FV⟩ hb_ hon hoff
                refine ⟨_, rfl, fun K hK => ?_⟩
                have e56 : a.tmps[56]? = some (.iface 86 (.pointer (some ⟨gz, 0, none⟩))) := by rw [ha]; exact putSel_on (e := (13, 56, .iface 86 (.pointer (some ⟨gz, 0, none⟩)))) 13 rfl rfl (hon 13 (by kernel_rfl)) rfl
                have e57 : a.tmps[57]? = some (Sent aA) := by rw [ha]; exact putSel_on (e := (14, 57, Sent aA)) 14 rfl rfl (hon 14 (by kernel_rfl)) rfl
                have e55 : a.tmps[55]? = some (.bool false) := by rw [ha]; exact putSel_on (e := (12, 55, .bool false)) 12 rfl rfl (hon 12 (by kernel_rfl)) rfl
                replace ha := Aside0.mk ha
                have HBr := Aside0.mk Q_HBr
                have FX := Aside0.mk Q_FX
                have FY := Aside0.mk Q_FY
                have SX := Aside0.mk Q_SX
                have SY := Aside0.mk Q_SY
                have FA := Aside0.mk Q_FA
                have FV := Aside0.mk Q_FV
                refine goes_ Tryd.func16 (by kernel_rfl) rfl #[.iface 86 (.pointer (some ⟨gz, 0, none⟩)), Sent aA] (wanted_on rfl rfl rfl (e55.trans (by first | rfl | (simp [*]; done)))) rfl rfl (by first | (simp only [List.map_toArray, List.map_cons, List.map_nil, Act.eval, Array.getD_eq_getD_getElem?, Option.getD_some, e56, e57, e55]; done) | (simp only [List.map_toArray, List.map_cons, List.map_nil, Act.eval, Array.getD_eq_getD_getElem?, Option.getD_some, e56, e57, e55]; rfl)) ?_
                refine (is_s FV.out).mono ?_
                rintro e w1 ⟨rfl, hb1⟩
                refine ⟨_, rfl, ?_⟩
                refine hK.out _ _ ⟨(by rw [ha.out]; exact putSel_upk 15 hb_ rfl rfl rfl), below_step HBr.out hb1, blk_below hb1 FX.out, blk_below hb1 FY.out, SV_below SX.out hb1, SV_below SY.out hb1, pw_cell_below hb1 FA.out, Ats_below FV.out hb1⟩
              refine steps_cons ?_ ?_
              · rintro b a w' ⟨ha, Q_HBr, Q_FX, Q_FY, Q_SX, Q_SY, Q_FA, Q_FV⟩ hb_ hon hoff
                refine ⟨_, rfl, fun K hK => ?_⟩
                have e55 : a.tmps[55]? = some (.bool false) := by rw [ha]; exact putSel_on (e := (12, 55, .bool false)) 12 rfl rfl (hon 12 (by kernel_rfl)) rfl
                have e58 : a.tmps[58]? = some (.bool true) := by rw [ha]; exact putSel_on (e := (15, 58, .bool true)) 15 rfl rfl (hon 15 (by kernel_rfl)) rfl
                have e52 : a.tmps[52]? = some (.bool true) := by rw [ha]; exact putSel_on (e := (9, 52, .bool true)) 9 rfl rfl (hon 9 (by kernel_rfl)) rfl
                replace ha := Aside0.mk ha
                have HBr := Aside0.mk Q_HBr
                have FX := Aside0.mk Q_FX
                have FY := Aside0.mk Q_FY
                have SX := Aside0.mk Q_SX
                have SY := Aside0.mk Q_SY
                have FA := Aside0.mk Q_FA
                have FV := Aside0.mk Q_FV
                refine value_ (w1 := w') (v := .bool true) (wanted_on rfl rfl rfl (e52.trans (by first | rfl | (simp [*]; done)))) rfl ?_ ?_
                · go_simp
                  (try simp only [i64_w])
                  try rfl
                refine hK.out _ _ ⟨(by rw [ha.out]; exact putSel_upk 16 hb_ rfl rfl rfl), Q_HBr, Q_FX, Q_FY, Q_SX, Q_SY, Q_FA, Q_FV⟩
              refine steps_cons ?_ ?_
              · rintro b a w' ⟨ha, Q_HBr, Q_FX, Q_FY, Q_SX, Q_SY, Q_FA, Q_FV⟩ hb_ hon hoff
                refine ⟨_, rfl, fun K hK => ?_⟩
                have e52 : a.tmps[52]? = some (.bool true) := by rw [ha]; exact putSel_on (e := (9, 52, .bool true)) 9 rfl rfl (hon 9 (by kernel_rfl)) rfl
                have e59 : a.tmps[59]? = some (.bool true) := by rw [ha]; exact putSel_on (e := (16, 59, .bool true)) 16 rfl rfl (hon 16 (by kernel_rfl)) rfl
                replace ha := Aside0.mk ha
                have HBr := Aside0.mk Q_HBr
                have FX := Aside0.mk Q_FX
                have FY := Aside0.mk Q_FY
                have SX := Aside0.mk Q_SX
                have SY := Aside0.mk Q_SY
                have FA := Aside0.mk Q_FA
                have FV := Aside0.mk Q_FV
                refine value_ (w1 := w') (v := .bool true) ?cA ?cB ?_ ?_
                case cA => rfl
                case cB => rfl
                · go_simp
                  (try simp only [i64_w])
                  try rfl
                refine hK.out _ _ ⟨(by rw [ha.out]; exact putSel_upk 17 hb_ rfl rfl rfl), Q_HBr, Q_FX, Q_FY, Q_SX, Q_SY, Q_FA, Q_FV⟩
              refine steps_cons ?_ ?_
              · rintro b a w' ⟨ha, Q_HBr, Q_FX, Q_FY, Q_SX, Q_SY, Q_FA, Q_FV⟩ hb_ hon hoff
                refine ⟨_, rfl, fun K hK => ?_⟩
                have e60 : a.tmps[60]? = some (.bool true) := by rw [ha]; exact putSel_on (e := (17, 60, .bool true)) 17 rfl rfl (hon 17 (by kernel_rfl)) rfl
                replace ha := Aside0.mk ha
                have HBr := Aside0.mk Q_HBr
                have FX := Aside0.mk Q_FX
                have FY := Aside0.mk Q_FY
                have SX := Aside0.mk Q_SX
                have SY := Aside0.mk Q_SY
                have FA := Aside0.mk Q_FA
                have FV := Aside0.mk Q_FV
                refine value_ (w1 := w') (v := .bool true) ?cA ?cB ?_ ?_
                case cA => rfl
                case cB => rfl
                · go_simp
                  (try simp only [i64_w])
                  try rfl
                refine hK.out _ _ ⟨(by rw [ha.out]; exact putSel_upk 18 hb_ rfl rfl rfl), Q_HBr, Q_FX, Q_FY, Q_SX, Q_SY, Q_FA, Q_FV⟩
              refine steps_cons ?_ ?_
              · rintro b a w' ⟨ha, Q_HBr, Q_FX, Q_FY, Q_SX, Q_SY, Q_FA, Q_FV⟩ hb_ hon hoff
                refine ⟨_, rfl, fun K hK => ?_⟩
                have e2 : a.tmps[2]? = some (.pointer (some ⟨xb, 0, none⟩)) := by rw [ha]; exact (putSel_off rfl).trans rfl
                have e61 : a.tmps[61]? = some (.bool true) := by rw [ha]; exact putSel_on (e := (18, 61, .bool true)) 18 rfl rfl (hon 18 (by kernel_rfl)) rfl
                replace ha := Aside0.mk ha
                have HBr := Aside0.mk Q_HBr
                have FX := Aside0.mk Q_FX
                have FY := Aside0.mk Q_FY
                have SX := Aside0.mk Q_SX
                have SY := Aside0.mk Q_SY
                have FA := Aside0.mk Q_FA
                have FV := Aside0.mk Q_FV
                have z0_ : w'.cell? ⟨xb, 0, none⟩ = some (.int .i64 x.f0.f0) := (blk_cell (FX.out) 0).trans rfl
                have z1_ : w'.cell? ⟨xb, 1, none⟩ = some (.int .i64 x.f0.f1) := (blk_cell (FX.out) 1).trans rfl
                have z2_ : w'.cell? ⟨xb, 2, none⟩ = some (.int .i64 x.f0.f2) := (blk_cell (FX.out) 2).trans rfl
                have z3_ : w'.cell? ⟨xb, 3, none⟩ = some (.int .i64 x.f0.f3) := (blk_cell (FX.out) 3).trans rfl
                have z4_ : w'.cell? ⟨xb, 4, none⟩ = some (.int .i64 x.f0.f4) := (blk_cell (FX.out) 4).trans rfl
                have z5_ : w'.cell? ⟨xb, 5, none⟩ = some (.slice A5 x5 c5) := (blk_cell (FX.out) 5).trans rfl
                have z6_ : w'.cell? ⟨xb, 6, none⟩ = some (.slice A6 x6 c6) := (blk_cell (FX.out) 6).trans rfl
                refine value_ (w1 := w') (v := .agg #[.int .i64 x.f0.f0, .int .i64 x.f0.f1, .int .i64 x.f0.f2, .int .i64 x.f0.f3, .int .i64 x.f0.f4, .slice A5 x5 c5, .slice A6 x6 c6]) (wanted_on rfl rfl rfl (e61.trans (by first | rfl | (simp [*]; done)))) rfl ?_ ?_
                · go_simp
                  (try simp only [i64_w])
                  try rfl
                refine hK.out _ _ ⟨(by rw [ha.out]; exact putSel_upk 19 hb_ rfl rfl rfl), Q_HBr, Q_FX, Q_FY, Q_SX, Q_SY, Q_FA, Q_FV⟩
              refine steps_cons ?_ ?_
              · rintro b a w' ⟨ha, Q_HBr, Q_FX, Q_FY, Q_SX, Q_SY, Q_FA, Q_FV⟩ hb_ hon hoff
                refine ⟨_, rfl, fun K hK => ?_⟩
                have e62 : a.tmps[62]? = some (.agg #[.int .i64 x.f0.f0, .int .i64 x.f0.f1, .int .i64 x.f0.f2, .int .i64 x.f0.f3, .int .i64 x.f0.f4, .slice A5 x5 c5, .slice A6 x6 c6]) := by rw [ha]; exact putSel_on (e := (19, 62, .agg #[.int .i64 x.f0.f0, .int .i64 x.f0.f1, .int .i64 x.f0.f2, .int .i64 x.f0.f3, .int .i64 x.f0.f4, .slice A5 x5 c5, .slice A6 x6 c6])) 19 rfl rfl (hon 19 (by kernel_rfl)) rfl
                have e61 : a.tmps[61]? = some (.bool true) := by rw [ha]; exact putSel_on (e := (18, 61, .bool true)) 18 rfl rfl (hon 18 (by kernel_rfl)) rfl
                replace ha := Aside0.mk ha
                have HBr := Aside0.mk Q_HBr
                have FX := Aside0.mk Q_FX
                have FY := Aside0.mk Q_FY
                have SX := Aside0.mk Q_SX
                have SY := Aside0.mk Q_SY
                have FA := Aside0.mk Q_FA
                have FV := Aside0.mk Q_FV
                refine goes_ Tryd.func11 (by kernel_rfl) rfl #[.agg #[.int .i64 x.f0.f0, .int .i64 x.f0.f1, .int .i64 x.f0.f2, .int .i64 x.f0.f3, .int .i64 x.f0.f4, .slice A5 x5 c5, .slice A6 x6 c6]] (wanted_on rfl rfl rfl (e61.trans (by first | rfl | (simp [*]; done)))) rfl rfl (by first | (simp only [List.map_toArray, List.map_cons, List.map_nil, Act.eval, Array.getD_eq_getD_getElem?, Option.getD_some, e62, e61]; done) | (simp only [List.map_toArray, List.map_cons, List.map_nil, Act.eval, Array.getD_eq_getD_getElem?, Option.getD_some, e62, e61]; rfl)) ?_
                refine (good_c SX.out aA FA.out).mono ?_
                rintro e w1 ⟨hr_, hb1⟩
                rw [HGG.out] at hr_
                subst hr_
                refine ⟨_, rfl, ?_⟩
                refine hK.out _ _ ⟨(by rw [ha.out]; exact putSel_upk 20 hb_ rfl rfl rfl), below_step HBr.out hb1, blk_below hb1 FX.out, blk_below hb1 FY.out, SV_below SX.out hb1, SV_below SY.out hb1, pw_cell_below hb1 FA.out, Ats_below FV.out hb1⟩
              refine steps_cons ?_ ?_
              · rintro b a w' ⟨ha, Q_HBr, Q_FX, Q_FY, Q_SX, Q_SY, Q_FA, Q_FV⟩ hb_ hon hoff
                refine ⟨_, rfl, fun K hK => ?_⟩
                have e2 : a.tmps[2]? = some (.pointer (some ⟨xb, 0, none⟩)) := by rw [ha]; exact (putSel_off rfl).trans rfl
                have e61 : a.tmps[61]? = some (.bool true) := by rw [ha]; exact putSel_on (e := (18, 61, .bool true)) 18 rfl rfl (hon 18 (by kernel_rfl)) rfl
                replace ha := Aside0.mk ha
                have HBr := Aside0.mk Q_HBr
                have FX := Aside0.mk Q_FX
                have FY := Aside0.mk Q_FY
                have SX := Aside0.mk Q_SX
                have SY := Aside0.mk Q_SY
                have FA := Aside0.mk Q_FA
                have FV := Aside0.mk Q_FV
                have z0_ : w'.cell? ⟨xb, 0, none⟩ = some (.int .i64 x.f0.f0) := (blk_cell (FX.out) 0).trans rfl
                have z1_ : w'.cell? ⟨xb, 1, none⟩ = some (.int .i64 x.f0.f1) := (blk_cell (FX.out) 1).trans rfl
                have z2_ : w'.cell? ⟨xb, 2, none⟩ = some (.int .i64 x.f0.f2) := (blk_cell (FX.out) 2).trans rfl
                have z3_ : w'.cell? ⟨xb, 3, none⟩ = some (.int .i64 x.f0.f3) := (blk_cell (FX.out) 3).trans rfl
                have z4_ : w'.cell? ⟨xb, 4, none⟩ = some (.int .i64 x.f0.f4) := (blk_cell (FX.out) 4).trans rfl
                have z5_ : w'.cell? ⟨xb, 5, none⟩ = some (.slice A5 x5 c5) := (blk_cell (FX.out) 5).trans rfl
                have z6_ : w'.cell? ⟨xb, 6, none⟩ = some (.slice A6 x6 c6) := (blk_cell (FX.out) 6).trans rfl
                refine value_ (w1 := w') (v := .agg #[.int .i64 x.f0.f0, .int .i64 x.f0.f1, .int .i64 x.f0.f2, .int .i64 x.f0.f3, .int .i64 x.f0.f4, .slice A5 x5 c5, .slice A6 x6 c6]) (wanted_on rfl rfl rfl (e61.trans (by first | rfl | (simp [*]; done)))) rfl ?_ ?_
                · go_simp
                  (try simp only [i64_w])
                  try rfl
                refine hK.out _ _ ⟨(by rw [ha.out]; exact putSel_upk 21 hb_ rfl rfl rfl), Q_HBr, Q_FX, Q_FY, Q_SX, Q_SY, Q_FA, Q_FV⟩
              refine steps_cons ?_ ?_
              · rintro b a w' ⟨ha, Q_HBr, Q_FX, Q_FY, Q_SX, Q_SY, Q_FA, Q_FV⟩ hb_ hon hoff
                refine ⟨_, rfl, fun K hK => ?_⟩
                have e64 : a.tmps[64]? = some (.agg #[.int .i64 x.f0.f0, .int .i64 x.f0.f1, .int .i64 x.f0.f2, .int .i64 x.f0.f3, .int .i64 x.f0.f4, .slice A5 x5 c5, .slice A6 x6 c6]) := by rw [ha]; exact putSel_on (e := (21, 64, .agg #[.int .i64 x.f0.f0, .int .i64 x.f0.f1, .int .i64 x.f0.f2, .int .i64 x.f0.f3, .int .i64 x.f0.f4, .slice A5 x5 c5, .slice A6 x6 c6])) 21 rfl rfl (hon 21 (by kernel_rfl)) rfl
                have e61 : a.tmps[61]? = some (.bool true) := by rw [ha]; exact putSel_on (e := (18, 61, .bool true)) 18 rfl rfl (hon 18 (by kernel_rfl)) rfl
                replace ha := Aside0.mk ha
                have HBr := Aside0.mk Q_HBr
                have FX := Aside0.mk Q_FX
                have FY := Aside0.mk Q_FY
                have SX := Aside0.mk Q_SX
                have SY := Aside0.mk Q_SY
                have FA := Aside0.mk Q_FA
                have FV := Aside0.mk Q_FV
                refine goes_ Tryd.func17 (by kernel_rfl) rfl #[.agg #[.int .i64 x.f0.f0, .int .i64 x.f0.f1, .int .i64 x.f0.f2, .int .i64 x.f0.f3, .int .i64 x.f0.f4, .slice A5 x5 c5, .slice A6 x6 c6]] (wanted_on rfl rfl rfl (e61.trans (by first | rfl | (simp [*]; done)))) rfl rfl (by first | (simp only [List.map_toArray, List.map_cons, List.map_nil, Act.eval, Array.getD_eq_getD_getElem?, Option.getD_some, e64, e61]; done) | (simp only [List.map_toArray, List.map_cons, List.map_nil, Act.eval, Array.getD_eq_getD_getElem?, Option.getD_some, e64, e61]; rfl)) ?_
                refine (rgood_c SX.out).mono ?_
                rintro e w1 ⟨hr_, hb1⟩
                rw [HGG.out] at hr_
                subst hr_
                refine ⟨_, rfl, ?_⟩
                refine hK.out _ _ ⟨(by rw [ha.out]; exact putSel_upk 22 hb_ rfl rfl rfl), below_step HBr.out hb1, blk_below hb1 FX.out, blk_below hb1 FY.out, SV_below SX.out hb1, SV_below SY.out hb1, pw_cell_below hb1 FA.out, Ats_below FV.out hb1⟩
              refine steps_cons ?_ ?_
              · rintro b a w' ⟨ha, Q_HBr, Q_FX, Q_FY, Q_SX, Q_SY, Q_FA, Q_FV⟩ hb_ hon hoff
                refine ⟨_, rfl, fun K hK => ?_⟩
                have e63 : a.tmps[63]? = some (.bool gg) := by rw [ha]; exact putSel_on (e := (20, 63, .bool gg)) 20 rfl rfl (hon 20 (by kernel_rfl)) rfl
                have e65 : a.tmps[65]? = some (.bool gg) := by rw [ha]; exact putSel_on (e := (22, 65, .bool gg)) 22 rfl rfl (hon 22 (by kernel_rfl)) rfl
                have e61 : a.tmps[61]? = some (.bool true) := by rw [ha]; exact putSel_on (e := (18, 61, .bool true)) 18 rfl rfl (hon 18 (by kernel_rfl)) rfl
                replace ha := Aside0.mk ha
                have HBr := Aside0.mk Q_HBr
                have FX := Aside0.mk Q_FX
                have FY := Aside0.mk Q_FY
                have SX := Aside0.mk Q_SX
                have SY := Aside0.mk Q_SY
                have FA := Aside0.mk Q_FA
                have FV := Aside0.mk Q_FV
                refine value_ (w1 := w') (v := .bool true) (wanted_on rfl rfl rfl (e61.trans (by first | rfl | (simp [*]; done)))) rfl ?_ ?_
                · go_simp
                  (try simp only [i64_w])
                  try rfl
                refine hK.out _ _ ⟨(by rw [ha.out]; exact putSel_upk 23 hb_ rfl rfl rfl), Q_HBr, Q_FX, Q_FY, Q_SX, Q_SY, Q_FA, Q_FV⟩
              refine steps_cons ?_ ?_
              · rintro b a w' ⟨ha, Q_HBr, Q_FX, Q_FY, Q_SX, Q_SY, Q_FA, Q_FV⟩ hb_ hon hoff
                refine ⟨_, rfl, fun K hK => ?_⟩
                have e61 : a.tmps[61]? = some (.bool true) := by rw [ha]; exact putSel_on (e := (18, 61, .bool true)) 18 rfl rfl (hon 18 (by kernel_rfl)) rfl
                have e66 : a.tmps[66]? = some (.bool true) := by rw [ha]; exact putSel_on (e := (23, 66, .bool true)) 23 rfl rfl (hon 23 (by kernel_rfl)) rfl
                replace ha := Aside0.mk ha
                have HBr := Aside0.mk Q_HBr
                have FX := Aside0.mk Q_FX
                have FY := Aside0.mk Q_FY
                have SX := Aside0.mk Q_SX
                have SY := Aside0.mk Q_SY
                have FA := Aside0.mk Q_FA
                have FV := Aside0.mk Q_FV
                refine value_ (w1 := w') (v := .bool true) ?cA ?cB ?_ ?_
                case cA => rfl
                case cB => rfl
                · go_simp
                  (try simp only [i64_w])
                  try rfl
                refine hK.out _ _ ⟨(by rw [ha.out]; exact putSel_upk 24 hb_ rfl rfl rfl), Q_HBr, Q_FX, Q_FY, Q_SX, Q_SY, Q_FA, Q_FV⟩
              refine steps_cons ?_ ?_
              · rintro b a w' ⟨ha, Q_HBr, Q_FX, Q_FY, Q_SX, Q_SY, Q_FA, Q_FV⟩ hb_ hon hoff
                refine ⟨_, rfl, fun K hK => ?_⟩
                have e67 : a.tmps[67]? = some (.bool true) := by rw [ha]; exact putSel_on (e := (24, 67, .bool true)) 24 rfl rfl (hon 24 (by kernel_rfl)) rfl
                replace ha := Aside0.mk ha
                have HBr := Aside0.mk Q_HBr
                have FX := Aside0.mk Q_FX
                have FY := Aside0.mk Q_FY
                have SX := Aside0.mk Q_SX
                have SY := Aside0.mk Q_SY
                have FA := Aside0.mk Q_FA
                have FV := Aside0.mk Q_FV
                refine value_ (w1 := w') (v := .bool true) ?cA ?cB ?_ ?_
                case cA => rfl
                case cB => rfl
                · go_simp
                  (try simp only [i64_w])
                  try rfl
                refine hK.out _ _ ⟨(by rw [ha.out]; exact putSel_upk 25 hb_ rfl rfl rfl), Q_HBr, Q_FX, Q_FY, Q_SX, Q_SY, Q_FA, Q_FV⟩
              refine steps_cons ?_ ?_
              · rintro b a w' ⟨ha, Q_HBr, Q_FX, Q_FY, Q_SX, Q_SY, Q_FA, Q_FV⟩ hb_ hon hoff
                refine ⟨_, rfl, fun K hK => ?_⟩
                have e2 : a.tmps[2]? = some (.pointer (some ⟨xb, 0, none⟩)) := by rw [ha]; exact (putSel_off rfl).trans rfl
                have e68 : a.tmps[68]? = some (.bool true) := by rw [ha]; exact putSel_on (e := (25, 68, .bool true)) 25 rfl rfl (hon 25 (by kernel_rfl)) rfl
                replace ha := Aside0.mk ha
                have HBr := Aside0.mk Q_HBr
                have FX := Aside0.mk Q_FX
                have FY := Aside0.mk Q_FY
                have SX := Aside0.mk Q_SX
                have SY := Aside0.mk Q_SY
                have FA := Aside0.mk Q_FA
                have FV := Aside0.mk Q_FV
                have z0_ : w'.cell? ⟨xb, 0, none⟩ = some (.int .i64 x.f0.f0) := (blk_cell (FX.out) 0).trans rfl
                have z1_ : w'.cell? ⟨xb, 1, none⟩ = some (.int .i64 x.f0.f1) := (blk_cell (FX.out) 1).trans rfl
                have z2_ : w'.cell? ⟨xb, 2, none⟩ = some (.int .i64 x.f0.f2) := (blk_cell (FX.out) 2).trans rfl
                have z3_ : w'.cell? ⟨xb, 3, none⟩ = some (.int .i64 x.f0.f3) := (blk_cell (FX.out) 3).trans rfl
                have z4_ : w'.cell? ⟨xb, 4, none⟩ = some (.int .i64 x.f0.f4) := (blk_cell (FX.out) 4).trans rfl
                have z5_ : w'.cell? ⟨xb, 5, none⟩ = some (.slice A5 x5 c5) := (blk_cell (FX.out) 5).trans rfl
                have z6_ : w'.cell? ⟨xb, 6, none⟩ = some (.slice A6 x6 c6) := (blk_cell (FX.out) 6).trans rfl
                refine value_ (w1 := w') (v := .agg #[.int .i64 x.f0.f0, .int .i64 x.f0.f1, .int .i64 x.f0.f2, .int .i64 x.f0.f3, .int .i64 x.f0.f4, .slice A5 x5 c5, .slice A6 x6 c6]) (wanted_on rfl rfl rfl (e68.trans (by first | rfl | (simp [*]; done)))) rfl ?_ ?_
                · go_simp
                  (try simp only [i64_w])
                  try rfl
                refine hK.out _ _ ⟨(by rw [ha.out]; exact putSel_upk 26 hb_ rfl rfl rfl), Q_HBr, Q_FX, Q_FY, Q_SX, Q_SY, Q_FA, Q_FV⟩
              refine steps_cons ?_ ?_
              · rintro b a w' ⟨ha, Q_HBr, Q_FX, Q_FY, Q_SX, Q_SY, Q_FA, Q_FV⟩ hb_ hon hoff
                refine ⟨_, rfl, fun K hK => ?_⟩
                have e3 : a.tmps[3]? = some (.pointer (some ⟨yb, 0, none⟩)) := by rw [ha]; exact (putSel_off rfl).trans rfl
                have e68 : a.tmps[68]? = some (.bool true) := by rw [ha]; exact putSel_on (e := (25, 68, .bool true)) 25 rfl rfl (hon 25 (by kernel_rfl)) rfl
                replace ha := Aside0.mk ha
                have HBr := Aside0.mk Q_HBr
                have FX := Aside0.mk Q_FX
                have FY := Aside0.mk Q_FY
                have SX := Aside0.mk Q_SX
                have SY := Aside0.mk Q_SY
                have FA := Aside0.mk Q_FA
                have FV := Aside0.mk Q_FV
                have z0_ : w'.cell? ⟨yb, 0, none⟩ = some (.int .i64 y.f0.f0) := (blk_cell (FY.out) 0).trans rfl
                have z1_ : w'.cell? ⟨yb, 1, none⟩ = some (.int .i64 y.f0.f1) := (blk_cell (FY.out) 1).trans rfl
                have z2_ : w'.cell? ⟨yb, 2, none⟩ = some (.int .i64 y.f0.f2) := (blk_cell (FY.out) 2).trans rfl
                have z3_ : w'.cell? ⟨yb, 3, none⟩ = some (.int .i64 y.f0.f3) := (blk_cell (FY.out) 3).trans rfl
                have z4_ : w'.cell? ⟨yb, 4, none⟩ = some (.int .i64 y.f0.f4) := (blk_cell (FY.out) 4).trans rfl
                have z5_ : w'.cell? ⟨yb, 5, none⟩ = some (.slice B5 y5 d5) := (blk_cell (FY.out) 5).trans rfl
                have z6_ : w'.cell? ⟨yb, 6, none⟩ = some (.slice B6 y6 d6) := (blk_cell (FY.out) 6).trans rfl
                refine value_ (w1 := w') (v := .agg #[.int .i64 y.f0.f0, .int .i64 y.f0.f1, .int .i64 y.f0.f2, .int .i64 y.f0.f3, .int .i64 y.f0.f4, .slice B5 y5 d5, .slice B6 y6 d6]) (wanted_on rfl rfl rfl (e68.trans (by first | rfl | (simp [*]; done)))) rfl ?_ ?_
                · go_simp
                  (try simp only [i64_w])
                  try rfl
                refine hK.out _ _ ⟨(by rw [ha.out]; exact putSel_upk 27 hb_ rfl rfl rfl), Q_HBr, Q_FX, Q_FY, Q_SX, Q_SY, Q_FA, Q_FV⟩
              refine steps_cons ?_ ?_
              · rintro b a w' ⟨ha, Q_HBr, Q_FX, Q_FY, Q_SX, Q_SY, Q_FA, Q_FV⟩ hb_ hon hoff
                refine ⟨_, rfl, fun K hK => ?_⟩
                have e69 : a.tmps[69]? = some (.agg #[.int .i64 x.f0.f0, .int .i64 x.f0.f1, .int .i64 x.f0.f2, .int .i64 x.f0.f3, .int .i64 x.f0.f4, .slice A5 x5 c5, .slice A6 x6 c6]) := by rw [ha]; exact putSel_on (e := (26, 69, .agg #[.int .i64 x.f0.f0, .int .i64 x.f0.f1, .int .i64 x.f0.f2, .int .i64 x.f0.f3, .int .i64 x.f0.f4, .slice A5 x5 c5, .slice A6 x6 c6])) 26 rfl rfl (hon 26 (by kernel_rfl)) rfl
                have e70 : a.tmps[70]? = some (.agg #[.int .i64 y.f0.f0, .int .i64 y.f0.f1, .int .i64 y.f0.f2, .int .i64 y.f0.f3, .int .i64 y.f0.f4, .slice B5 y5 d5, .slice B6 y6 d6]) := by rw [ha]; exact putSel_on (e := (27, 70, .agg #[.int .i64 y.f0.f0, .int .i64 y.f0.f1, .int .i64 y.f0.f2, .int .i64 y.f0.f3, .int .i64 y.f0.f4, .slice B5 y5 d5, .slice B6 y6 d6])) 27 rfl rfl (hon 27 (by kernel_rfl)) rfl
                have e68 : a.tmps[68]? = some (.bool true) := by rw [ha]; exact putSel_on (e := (25, 68, .bool true)) 25 rfl rfl (hon 25 (by kernel_rfl)) rfl
                replace ha := Aside0.mk ha
                have HBr := Aside0.mk Q_HBr
                have FX := Aside0.mk Q_FX
                have FY := Aside0.mk Q_FY
                have SX := Aside0.mk Q_SX
                have SY := Aside0.mk Q_SY
                have FA := Aside0.mk Q_FA
                have FV := Aside0.mk Q_FV
                refine goes_ Tryd.func12 (by kernel_rfl) rfl #[.agg #[.int .i64 x.f0.f0, .int .i64 x.f0.f1, .int .i64 x.f0.f2, .int .i64 x.f0.f3, .int .i64 x.f0.f4, .slice A5 x5 c5, .slice A6 x6 c6], .agg #[.int .i64 y.f0.f0, .int .i64 y.f0.f1, .int .i64 y.f0.f2, .int .i64 y.f0.f3, .int .i64 y.f0.f4, .slice B5 y5 d5, .slice B6 y6 d6]] (wanted_on rfl rfl rfl (e68.trans (by first | rfl | (simp [*]; done)))) rfl rfl (by first | (simp only [List.map_toArray, List.map_cons, List.map_nil, Act.eval, Array.getD_eq_getD_getElem?, Option.getD_some, e69, e70, e68]; done) | (simp only [List.map_toArray, List.map_cons, List.map_nil, Act.eval, Array.getD_eq_getD_getElem?, Option.getD_some, e69, e70, e68]; rfl)) ?_
                refine (same_c SX.out SY.out).mono ?_
                rintro e w1 ⟨hr_, hb1⟩
                rw [HBB.out] at hr_
                subst hr_
                refine ⟨_, rfl, ?_⟩
                refine hK.out _ _ ⟨(by rw [ha.out]; exact putSel_upk 28 hb_ rfl rfl rfl), below_step HBr.out hb1, blk_below hb1 FX.out, blk_below hb1 FY.out, SV_below SX.out hb1, SV_below SY.out hb1, pw_cell_below hb1 FA.out, Ats_below FV.out hb1⟩
              refine steps_cons ?_ ?_
              · rintro b a w' ⟨ha, Q_HBr, Q_FX, Q_FY, Q_SX, Q_SY, Q_FA, Q_FV⟩ hb_ hon hoff
                refine ⟨_, rfl, fun K hK => ?_⟩
                have e2 : a.tmps[2]? = some (.pointer (some ⟨xb, 0, none⟩)) := by rw [ha]; exact (putSel_off rfl).trans rfl
                have e68 : a.tmps[68]? = some (.bool true) := by rw [ha]; exact putSel_on (e := (25, 68, .bool true)) 25 rfl rfl (hon 25 (by kernel_rfl)) rfl
                replace ha := Aside0.mk ha
                have HBr := Aside0.mk Q_HBr
                have FX := Aside0.mk Q_FX
                have FY := Aside0.mk Q_FY
                have SX := Aside0.mk Q_SX
                have SY := Aside0.mk Q_SY
                have FA := Aside0.mk Q_FA
                have FV := Aside0.mk Q_FV
                have z0_ : w'.cell? ⟨xb, 0, none⟩ = some (.int .i64 x.f0.f0) := (blk_cell (FX.out) 0).trans rfl
                have z1_ : w'.cell? ⟨xb, 1, none⟩ = some (.int .i64 x.f0.f1) := (blk_cell (FX.out) 1).trans rfl
                have z2_ : w'.cell? ⟨xb, 2, none⟩ = some (.int .i64 x.f0.f2) := (blk_cell (FX.out) 2).trans rfl
                have z3_ : w'.cell? ⟨xb, 3, none⟩ = some (.int .i64 x.f0.f3) := (blk_cell (FX.out) 3).trans rfl
                have z4_ : w'.cell? ⟨xb, 4, none⟩ = some (.int .i64 x.f0.f4) := (blk_cell (FX.out) 4).trans rfl
                have z5_ : w'.cell? ⟨xb, 5, none⟩ = some (.slice A5 x5 c5) := (blk_cell (FX.out) 5).trans rfl
                have z6_ : w'.cell? ⟨xb, 6, none⟩ = some (.slice A6 x6 c6) := (blk_cell (FX.out) 6).trans rfl
                refine value_ (w1 := w') (v := .agg #[.int .i64 x.f0.f0, .int .i64 x.f0.f1, .int .i64 x.f0.f2, .int .i64 x.f0.f3, .int .i64 x.f0.f4, .slice A5 x5 c5, .slice A6 x6 c6]) (wanted_on rfl rfl rfl (e68.trans (by first | rfl | (simp [*]; done)))) rfl ?_ ?_
                · go_simp
                  (try simp only [i64_w])
                  try rfl
                refine hK.out _ _ ⟨(by rw [ha.out]; exact putSel_upk 29 hb_ rfl rfl rfl), Q_HBr, Q_FX, Q_FY, Q_SX, Q_SY, Q_FA, Q_FV⟩
              refine steps_cons ?_ ?_
              · rintro b a w' ⟨ha, Q_HBr, Q_FX, Q_FY, Q_SX, Q_SY, Q_FA, Q_FV⟩ hb_ hon hoff
                refine ⟨_, rfl, fun K hK => ?_⟩
                have e3 : a.tmps[3]? = some (.pointer (some ⟨yb, 0, none⟩)) := by rw [ha]; exact (putSel_off rfl).trans rfl
                have e68 : a.tmps[68]? = some (.bool true) := by rw [ha]; exact putSel_on (e := (25, 68, .bool true)) 25 rfl rfl (hon 25 (by kernel_rfl)) rfl
                replace ha := Aside0.mk ha
                have HBr := Aside0.mk Q_HBr
                have FX := Aside0.mk Q_FX
                have FY := Aside0.mk Q_FY
                have SX := Aside0.mk Q_SX
                have SY := Aside0.mk Q_SY
                have FA := Aside0.mk Q_FA
                have FV := Aside0.mk Q_FV
                have z0_ : w'.cell? ⟨yb, 0, none⟩ = some (.int .i64 y.f0.f0) := (blk_cell (FY.out) 0).trans rfl
                have z1_ : w'.cell? ⟨yb, 1, none⟩ = some (.int .i64 y.f0.f1) := (blk_cell (FY.out) 1).trans rfl
                have z2_ : w'.cell? ⟨yb, 2, none⟩ = some (.int .i64 y.f0.f2) := (blk_cell (FY.out) 2).trans rfl
                have z3_ : w'.cell? ⟨yb, 3, none⟩ = some (.int .i64 y.f0.f3) := (blk_cell (FY.out) 3).trans rfl
                have z4_ : w'.cell? ⟨yb, 4, none⟩ = some (.int .i64 y.f0.f4) := (blk_cell (FY.out) 4).trans rfl
                have z5_ : w'.cell? ⟨yb, 5, none⟩ = some (.slice B5 y5 d5) := (blk_cell (FY.out) 5).trans rfl
                have z6_ : w'.cell? ⟨yb, 6, none⟩ = some (.slice B6 y6 d6) := (blk_cell (FY.out) 6).trans rfl
                refine value_ (w1 := w') (v := .agg #[.int .i64 y.f0.f0, .int .i64 y.f0.f1, .int .i64 y.f0.f2, .int .i64 y.f0.f3, .int .i64 y.f0.f4, .slice B5 y5 d5, .slice B6 y6 d6]) (wanted_on rfl rfl rfl (e68.trans (by first | rfl | (simp [*]; done)))) rfl ?_ ?_
                · go_simp
                  (try simp only [i64_w])
                  try rfl
                refine hK.out _ _ ⟨(by rw [ha.out]; exact putSel_upk 30 hb_ rfl rfl rfl), Q_HBr, Q_FX, Q_FY, Q_SX, Q_SY, Q_FA, Q_FV⟩
              refine steps_cons ?_ ?_
              · rintro b a w' ⟨ha, Q_HBr, Q_FX, Q_FY, Q_SX, Q_SY, Q_FA, Q_FV⟩ hb_ hon hoff
                refine ⟨_, rfl, fun K hK => ?_⟩
                have e72 : a.tmps[72]? = some (.agg #[.int .i64 x.f0.f0, .int .i64 x.f0.f1, .int .i64 x.f0.f2, .int .i64 x.f0.f3, .int .i64 x.f0.f4, .slice A5 x5 c5, .slice A6 x6 c6]) := by rw [ha]; exact putSel_on (e := (29, 72, .agg #[.int .i64 x.f0.f0, .int .i64 x.f0.f1, .int .i64 x.f0.f2, .int .i64 x.f0.f3, .int .i64 x.f0.f4, .slice A5 x5 c5, .slice A6 x6 c6])) 29 rfl rfl (hon 29 (by kernel_rfl)) rfl
                have e73 : a.tmps[73]? = some (.agg #[.int .i64 y.f0.f0, .int .i64 y.f0.f1, .int .i64 y.f0.f2, .int .i64 y.f0.f3, .int .i64 y.f0.f4, .slice B5 y5 d5, .slice B6 y6 d6]) := by rw [ha]; exact putSel_on (e := (30, 73, .agg #[.int .i64 y.f0.f0, .int .i64 y.f0.f1, .int .i64 y.f0.f2, .int .i64 y.f0.f3, .int .i64 y.f0.f4, .slice B5 y5 d5, .slice B6 y6 d6])) 30 rfl rfl (hon 30 (by kernel_rfl)) rfl
                have e68 : a.tmps[68]? = some (.bool true) := by rw [ha]; exact putSel_on (e := (25, 68, .bool true)) 25 rfl rfl (hon 25 (by kernel_rfl)) rfl
                replace ha := Aside0.mk ha
                have HBr := Aside0.mk Q_HBr
                have FX := Aside0.mk Q_FX
                have FY := Aside0.mk Q_FY
                have SX := Aside0.mk Q_SX
                have SY := Aside0.mk Q_SY
                have FA := Aside0.mk Q_FA
                have FV := Aside0.mk Q_FV
                refine goes_ Tryd.func18 (by kernel_rfl) rfl #[.agg #[.int .i64 x.f0.f0, .int .i64 x.f0.f1, .int .i64 x.f0.f2, .int .i64 x.f0.f3, .int .i64 x.f0.f4, .slice A5 x5 c5, .slice A6 x6 c6], .agg #[.int .i64 y.f0.f0, .int .i64 y.f0.f1, .int .i64 y.f0.f2, .int .i64 y.f0.f3, .int .i64 y.f0.f4, .slice B5 y5 d5, .slice B6 y6 d6]] (wanted_on rfl rfl rfl (e68.trans (by first | rfl | (simp [*]; done)))) rfl rfl (by first | (simp only [List.map_toArray, List.map_cons, List.map_nil, Act.eval, Array.getD_eq_getD_getElem?, Option.getD_some, e72, e73, e68]; done) | (simp only [List.map_toArray, List.map_cons, List.map_nil, Act.eval, Array.getD_eq_getD_getElem?, Option.getD_some, e72, e73, e68]; rfl)) ?_
                refine (rsame_c SX.out SY.out).mono ?_
                rintro e w1 ⟨hr_, hb1⟩
                rw [HBB.out] at hr_
                subst hr_
                refine ⟨_, rfl, ?_⟩
                refine hK.out _ _ ⟨(by rw [ha.out]; exact putSel_upk 31 hb_ rfl rfl rfl), below_step HBr.out hb1, blk_below hb1 FX.out, blk_below hb1 FY.out, SV_below SX.out hb1, SV_below SY.out hb1, pw_cell_below hb1 FA.out, Ats_below FV.out hb1⟩
              refine steps_cons ?_ ?_
              · rintro b a w' ⟨ha, Q_HBr, Q_FX, Q_FY, Q_SX, Q_SY, Q_FA, Q_FV⟩ hb_ hon hoff
                refine ⟨_, rfl, fun K hK => ?_⟩
                have e71 : a.tmps[71]? = some (.bool bb) := by rw [ha]; exact putSel_on (e := (28, 71, .bool bb)) 28 rfl rfl (hon 28 (by kernel_rfl)) rfl
                have e74 : a.tmps[74]? = some (.bool bb) := by rw [ha]; exact putSel_on (e := (31, 74, .bool bb)) 31 rfl rfl (hon 31 (by kernel_rfl)) rfl
                have e68 : a.tmps[68]? = some (.bool true) := by rw [ha]; exact putSel_on (e := (25, 68, .bool true)) 25 rfl rfl (hon 25 (by kernel_rfl)) rfl
                replace ha := Aside0.mk ha
                have HBr := Aside0.mk Q_HBr
                have FX := Aside0.mk Q_FX
                have FY := Aside0.mk Q_FY
                have SX := Aside0.mk Q_SX
                have SY := Aside0.mk Q_SY
                have FA := Aside0.mk Q_FA
                have FV := Aside0.mk Q_FV
                refine value_ (w1 := w') (v := .bool true) (wanted_on rfl rfl rfl (e68.trans (by first | rfl | (simp [*]; done)))) rfl ?_ ?_
                · go_simp
                  (try simp only [i64_w])
                  try rfl
                refine hK.out _ _ ⟨(by rw [ha.out]; exact putSel_upk 32 hb_ rfl rfl rfl), Q_HBr, Q_FX, Q_FY, Q_SX, Q_SY, Q_FA, Q_FV⟩
              refine steps_cons ?_ ?_
              · rintro b a w' ⟨ha, Q_HBr, Q_FX, Q_FY, Q_SX, Q_SY, Q_FA, Q_FV⟩ hb_ hon hoff
                refine ⟨_, rfl, fun K hK => ?_⟩
                have e68 : a.tmps[68]? = some (.bool true) := by rw [ha]; exact putSel_on (e := (25, 68, .bool true)) 25 rfl rfl (hon 25 (by kernel_rfl)) rfl
                have e75 : a.tmps[75]? = some (.bool true) := by rw [ha]; exact putSel_on (e := (32, 75, .bool true)) 32 rfl rfl (hon 32 (by kernel_rfl)) rfl
                replace ha := Aside0.mk ha
                have HBr := Aside0.mk Q_HBr
                have FX := Aside0.mk Q_FX
                have FY := Aside0.mk Q_FY
                have SX := Aside0.mk Q_SX
                have SY := Aside0.mk Q_SY
                have FA := Aside0.mk Q_FA
                have FV := Aside0.mk Q_FV
                refine value_ (w1 := w') (v := .bool true) ?cA ?cB ?_ ?_
                case cA => rfl
                case cB => rfl
                · go_simp
                  (try simp only [i64_w])
                  try rfl
                refine hK.out _ _ ⟨(by rw [ha.out]; exact putSel_upk 33 hb_ rfl rfl rfl), Q_HBr, Q_FX, Q_FY, Q_SX, Q_SY, Q_FA, Q_FV⟩
              refine steps_cons ?_ ?_
              · rintro b a w' ⟨ha, Q_HBr, Q_FX, Q_FY, Q_SX, Q_SY, Q_FA, Q_FV⟩ hb_ hon hoff
                refine ⟨_, rfl, fun K hK => ?_⟩
                have e76 : a.tmps[76]? = some (.bool true) := by rw [ha]; exact putSel_on (e := (33, 76, .bool true)) 33 rfl rfl (hon 33 (by kernel_rfl)) rfl
                replace ha := Aside0.mk ha
                have HBr := Aside0.mk Q_HBr
                have FX := Aside0.mk Q_FX
                have FY := Aside0.mk Q_FY
                have SX := Aside0.mk Q_SX
                have SY := Aside0.mk Q_SY
                have FA := Aside0.mk Q_FA
                have FV := Aside0.mk Q_FV
                refine value_ (w1 := w') (v := .bool true) ?cA ?cB ?_ ?_
                case cA => rfl
                case cB => rfl
                · go_simp
                  (try simp only [i64_w])
                  try rfl
                refine hK.out _ _ ⟨(by rw [ha.out]; exact putSel_upk 34 hb_ rfl rfl rfl), Q_HBr, Q_FX, Q_FY, Q_SX, Q_SY, Q_FA, Q_FV⟩
              exact steps_nil
            rintro b a w' hall ⟨ha, Q_HBr, Q_FX, Q_FY, Q_SX, Q_SY, Q_FA, Q_FV⟩
            clear FA FV FX FY HBr SX SY
            have hb0_ := hall 0 (by kernel_rfl)
            have hb1_ := hall 1 (by kernel_rfl)
            have hb2_ := hall 2 (by kernel_rfl)
            have hb3_ := hall 3 (by kernel_rfl)
            have hb4_ := hall 4 (by kernel_rfl)
            have hb5_ := hall 5 (by kernel_rfl)
            have hb6_ := hall 6 (by kernel_rfl)
            have hb7_ := hall 7 (by kernel_rfl)
            have hb8_ := hall 8 (by kernel_rfl)
            have hb9_ := hall 9 (by kernel_rfl)
            have hb10_ := hall 10 (by kernel_rfl)
            have hb11_ := hall 11 (by kernel_rfl)
            have hb12_ := hall 12 (by kernel_rfl)
            have hb13_ := hall 13 (by kernel_rfl)
            have hb14_ := hall 14 (by kernel_rfl)
            have hb15_ := hall 15 (by kernel_rfl)
            have hb16_ := hall 16 (by kernel_rfl)
            have hb17_ := hall 17 (by kernel_rfl)
            have hb18_ := hall 18 (by kernel_rfl)
            have hb19_ := hall 19 (by kernel_rfl)
            have hb20_ := hall 20 (by kernel_rfl)
            have hb21_ := hall 21 (by kernel_rfl)
            have hb22_ := hall 22 (by kernel_rfl)
            have hb23_ := hall 23 (by kernel_rfl)
            have hb24_ := hall 24 (by kernel_rfl)
            have hb25_ := hall 25 (by kernel_rfl)
            have hb26_ := hall 26 (by kernel_rfl)
            have hb27_ := hall 27 (by kernel_rfl)
            have hb28_ := hall 28 (by kernel_rfl)
            have hb29_ := hall 29 (by kernel_rfl)
            have hb30_ := hall 30 (by kernel_rfl)
            have hb31_ := hall 31 (by kernel_rfl)
            have hb32_ := hall 32 (by kernel_rfl)
            have hb33_ := hall 33 (by kernel_rfl)
            have hb34_ := hall 34 (by kernel_rfl)
            subst ha
            simp only [putSel, hb0_, hb1_, hb2_, hb3_, hb4_, hb5_, hb6_, hb7_, hb8_, hb9_, hb10_, hb11_, hb12_, hb13_, hb14_, hb15_, hb16_, hb17_, hb18_, hb19_, hb20_, hb21_, hb22_, hb23_, hb24_, hb25_, hb26_, hb27_, hb28_, hb29_, hb30_, hb31_, hb32_, hb33_, hb34_, if_true, Act.put, List.setIfInBounds_toArray, List.set_cons_zero, List.set_cons_succ]
            have HBr := Aside0.mk Q_HBr
            clear Q_HBr
            have FX := Aside0.mk Q_FX
            clear Q_FX
            have FY := Aside0.mk Q_FY
            clear Q_FY
            have SX := Aside0.mk Q_SX
            clear Q_SX
            have SY := Aside0.mk Q_SY
            clear Q_SY
            have FA := Aside0.mk Q_FA
            clear Q_FA
            have FV := Aside0.mk Q_FV
            clear Q_FV
            clear hall hb0_ hb1_ hb2_ hb3_ hb4_ hb5_ hb6_ hb7_ hb8_ hb9_ hb10_ hb11_ hb12_ hb13_ hb14_ hb15_ hb16_ hb17_ hb18_ hb19_ hb20_ hb21_ hb22_ hb23_ hb24_ hb25_ hb26_ hb27_ hb28_ hb29_ hb30_ hb31_ hb32_ hb33_ hb34_
            go_wp2
            go_ret
            exact ⟨rfl, HBr.out⟩
          · obtain ⟨rfl, rfl⟩ := hx1 hx
            obtain ⟨rfl, rfl⟩ := hy1 hx
            rw [show strOfNums (encL x) = encS x from rfl]
            replace FX := Aside0.mk (blk_below hb FX.out)
            replace FY := Aside0.mk (blk_below hb FY.out)
            replace SX := Aside0.mk (SV_below SX.out hb)
            replace SY := Aside0.mk (SV_below SY.out hb)
            replace HB := Aside0.mk (below_step HB.out hb)
            clear hx1 hx2 hy1 hy2 hx x0_ x1_ x2_ x3_ x4_ x5_ x6_
            clear hb
            have FA := Aside0.mk (pw_cell_below HB.out HA.out)
            go_wp2
            refine start_ (n := 35) (S := fun w' => True) (ds := []) #[false, false, false, false, false, false, false, false, false, false, false, false, false, false, false, false, false, false, false, false, false, false, false, false, false, false, false, false, false, false, false, false, false, false, false] (by kernel_rfl) rfl rfl trivial (fun hHeld => ?_)
            refine with_tabW wria.tab7 wria.bits7 (fun HT_ HW_ => ?_)
            have HBr := Aside0.mk (below_drew1 HB.out)
            refine inv_at [0, 1, 2, 3, 4, 5, 6, 7, 8, 9, 10, 11, 12, 13, 14, 15, 16, 17, 18, 19, 20, 21, 22, 23, 24, 25, 26, 27, 28, 29, 30, 31, 32, 33, 34] (fun a0_ b a w' => a = putSel a0_ b [(0, 43, .string (encS x)), (1, 44, .string (encS x)), (2, 45, .bool true), (3, 46, .bool true), (4, 47, .nilIface), (5, 48, .bool true), (6, 49, .bool true), (7, 50, .bool true), (8, 51, .bool true), (9, 52, .bool true), (10, 53, .nilIface), (11, 54, .bool true), (12, 55, .bool true), (13, 56, undef), (14, 57, undef), (15, 58, undef), (16, 59, .bool true), (17, 60, .bool true), (18, 61, .bool true), (19, 62, .agg #[.int .i64 x.f0.f0, .int .i64 x.f0.f1, .int .i64 x.f0.f2, .int .i64 x.f0.f3, .int .i64 x.f0.f4, .slice A5 x5 c5, .slice A6 x6 c6]), (20, 63, .bool gg), (21, 64, .agg #[.int .i64 x.f0.f0, .int .i64 x.f0.f1, .int .i64 x.f0.f2, .int .i64 x.f0.f3, .int .i64 x.f0.f4, .slice A5 x5 c5, .slice A6 x6 c6]), (22, 65, .bool gg), (23, 66, .bool true), (24, 67, .bool true), (25, 68, .bool true), (26, 69, .agg #[.int .i64 x.f0.f0, .int .i64 x.f0.f1, .int .i64 x.f0.f2, .int .i64 x.f0.f3, .int .i64 x.f0.f4, .slice A5 x5 c5, .slice A6 x6 c6]), (27, 70, .agg #[.int .i64 y.f0.f0, .int .i64 y.f0.f1, .int .i64 y.f0.f2, .int .i64 y.f0.f3, .int .i64 y.f0.f4, .slice B5 y5 d5, .slice B6 y6 d6]), (28, 71, .bool bb), (29, 72, .agg #[.int .i64 x.f0.f0, .int .i64 x.f0.f1, .int .i64 x.f0.f2, .int .i64 x.f0.f3, .int .i64 x.f0.f4, .slice A5 x5 c5, .slice A6 x6 c6]), (30, 73, .agg #[.int .i64 y.f0.f0, .int .i64 y.f0.f1, .int .i64 y.f0.f2, .int .i64 y.f0.f3, .int .i64 y.f0.f4, .slice B5 y5 d5, .slice B6 y6 d6]), (31, 74, .bool bb), (32, 75, .bool true), (33, 76, .bool true), (34, 4, .bool true)] ∧ (Below w.heap.size w w') ∧ (w'.heap[xb]? = some (.cells #[.int .i64 x.f0.f0, .int .i64 x.f0.f1, .int .i64 x.f0.f2, .int .i64 x.f0.f3, .int .i64 x.f0.f4, .slice A5 x5 c5, .slice A6 x6 c6] 28 (0, 0))) ∧ (w'.heap[yb]? = some (.cells #[.int .i64 y.f0.f0, .int .i64 y.f0.f1, .int .i64 y.f0.f2, .int .i64 y.f0.f3, .int .i64 y.f0.f4, .slice B5 y5 d5, .slice B6 y6 d6] 28 (0, 0))) ∧ (SV w' x (.agg #[.int .i64 x.f0.f0, .int .i64 x.f0.f1, .int .i64 x.f0.f2, .int .i64 x.f0.f3, .int .i64 x.f0.f4, .slice A5 x5 c5, .slice A6 x6 c6])) ∧ (SV w' y (.agg #[.int .i64 y.f0.f0, .int .i64 y.f0.f1, .int .i64 y.f0.f2, .int .i64 y.f0.f3, .int .i64 y.f0.f4, .slice B5 y5 d5, .slice B6 y6 d6])) ∧ (w'.cell? gArg = some (Sent aA))) HT_.out HW_.out (by kernel_rfl) (by kernel_rfl) ?_ ?_ ?_
            · exact ⟨by simp only [putSel, Bool.false_eq_true, if_false], HBr.out, FX.out, FY.out, SV_below SX.out (below_drew (Below.refl _ _)), SV_below SY.out (below_drew (Below.refl _ _)), pw_cell_below (below_drew (Below.refl _ _)) FA.out⟩
            · skip
              clear FA FX FY HBr SX SY
              refine steps_cons ?_ ?_
              · rintro b a w' ⟨ha, Q_HBr, Q_FX, Q_FY, Q_SX, Q_SY, Q_FA⟩ hb_ hon hoff
                refine ⟨_, rfl, fun K hK => ?_⟩
                have e5 : a.tmps[5]? = some (.string (encS x)) := by rw [ha]; exact (putSel_off rfl).trans rfl
                replace ha := Aside0.mk ha
                have HBr := Aside0.mk Q_HBr
                have FX := Aside0.mk Q_FX
                have FY := Aside0.mk Q_FY
                have SX := Aside0.mk Q_SX
                have SY := Aside0.mk Q_SY
                have FA := Aside0.mk Q_FA
                refine value_ (w1 := w') (v := .string (encS x)) ?cA ?cB ?_ ?_
                case cA => rfl
                case cB => rfl
                · go_simp
                  (try simp only [i64_w])
                  try rfl
                refine hK.out _ _ ⟨(by rw [ha.out]; exact putSel_upk 0 hb_ rfl rfl rfl), Q_HBr, Q_FX, Q_FY, Q_SX, Q_SY, Q_FA⟩
              refine steps_cons ?_ ?_
              · rintro b a w' ⟨ha, Q_HBr, Q_FX, Q_FY, Q_SX, Q_SY, Q_FA⟩ hb_ hon hoff
                refine ⟨_, rfl, fun K hK => ?_⟩
                have e7 : a.tmps[7]? = some (.string (encS x)) := by rw [ha]; exact (putSel_off rfl).trans rfl
                replace ha := Aside0.mk ha
                have HBr := Aside0.mk Q_HBr
                have FX := Aside0.mk Q_FX
                have FY := Aside0.mk Q_FY
                have SX := Aside0.mk Q_SX
                have SY := Aside0.mk Q_SY
                have FA := Aside0.mk Q_FA
                refine value_ (w1 := w') (v := .string (encS x)) ?cA ?cB ?_ ?_
                case cA => rfl
                case cB => rfl
                · go_simp
                  (try simp only [i64_w])
                  try rfl
                refine hK.out _ _ ⟨(by rw [ha.out]; exact putSel_upk 1 hb_ rfl rfl rfl), Q_HBr, Q_FX, Q_FY, Q_SX, Q_SY, Q_FA⟩
              refine steps_cons ?_ ?_
              · rintro b a w' ⟨ha, Q_HBr, Q_FX, Q_FY, Q_SX, Q_SY, Q_FA⟩ hb_ hon hoff
                refine ⟨_, rfl, fun K hK => ?_⟩
                have e43 : a.tmps[43]? = some (.string (encS x)) := by rw [ha]; exact putSel_on (e := (0, 43, .string (encS x))) 0 rfl rfl (hon 0 (by kernel_rfl)) rfl
                have e44 : a.tmps[44]? = some (.string (encS x)) := by rw [ha]; exact putSel_on (e := (1, 44, .string (encS x))) 1 rfl rfl (hon 1 (by kernel_rfl)) rfl
                replace ha := Aside0.mk ha
                have HBr := Aside0.mk Q_HBr
                have FX := Aside0.mk Q_FX
                have FY := Aside0.mk Q_FY
                have SX := Aside0.mk Q_SX
                have SY := Aside0.mk Q_SY
                have FA := Aside0.mk Q_FA
                refine value_ (w1 := w') (v := .bool true) ?cA ?cB ?_ ?_
                case cA => rfl
                case cB => rfl
                · go_simp
                  (try simp only [i64_w])
                  try rfl
                refine hK.out _ _ ⟨(by rw [ha.out]; exact putSel_upk 2 hb_ rfl rfl rfl), Q_HBr, Q_FX, Q_FY, Q_SX, Q_SY, Q_FA⟩
              refine steps_cons ?_ ?_
              · rintro b a w' ⟨ha, Q_HBr, Q_FX, Q_FY, Q_SX, Q_SY, Q_FA⟩ hb_ hon hoff
                refine ⟨_, rfl, fun K hK => ?_⟩
                have e45 : a.tmps[45]? = some (.bool true) := by rw [ha]; exact putSel_on (e := (2, 45, .bool true)) 2 rfl rfl (hon 2 (by kernel_rfl)) rfl
                replace ha := Aside0.mk ha
                have HBr := Aside0.mk Q_HBr
                have FX := Aside0.mk Q_FX
                have FY := Aside0.mk Q_FY
                have SX := Aside0.mk Q_SX
                have SY := Aside0.mk Q_SY
                have FA := Aside0.mk Q_FA
                refine value_ (w1 := w') (v := .bool true) ?cA ?cB ?_ ?_
                case cA => rfl
                case cB => rfl
                · go_simp
                  (try simp only [i64_w])
                  try rfl
                refine hK.out _ _ ⟨(by rw [ha.out]; exact putSel_upk 3 hb_ rfl rfl rfl), Q_HBr, Q_FX, Q_FY, Q_SX, Q_SY, Q_FA⟩
              refine steps_cons ?_ ?_
              · rintro b a w' ⟨ha, Q_HBr, Q_FX, Q_FY, Q_SX, Q_SY, Q_FA⟩ hb_ hon hoff
                refine ⟨_, rfl, fun K hK => ?_⟩
                have e6 : a.tmps[6]? = some (.nilIface) := by rw [ha]; exact (putSel_off rfl).trans rfl
                have e46 : a.tmps[46]? = some (.bool true) := by rw [ha]; exact putSel_on (e := (3, 46, .bool true)) 3 rfl rfl (hon 3 (by kernel_rfl)) rfl
                replace ha := Aside0.mk ha
                have HBr := Aside0.mk Q_HBr
                have FX := Aside0.mk Q_FX
                have FY := Aside0.mk Q_FY
                have SX := Aside0.mk Q_SX
                have SY := Aside0.mk Q_SY
                have FA := Aside0.mk Q_FA
                refine value_ (w1 := w') (v := .nilIface) (wanted_on rfl rfl rfl (e46.trans (by first | rfl | (simp [*]; done)))) rfl ?_ ?_
                · go_simp
                  (try simp only [i64_w])
                  try rfl
                refine hK.out _ _ ⟨(by rw [ha.out]; exact putSel_upk 4 hb_ rfl rfl rfl), Q_HBr, Q_FX, Q_FY, Q_SX, Q_SY, Q_FA⟩
              refine steps_cons ?_ ?_
              · rintro b a w' ⟨ha, Q_HBr, Q_FX, Q_FY, Q_SX, Q_SY, Q_FA⟩ hb_ hon hoff
                refine ⟨_, rfl, fun K hK => ?_⟩
                have e47 : a.tmps[47]? = some (.nilIface) := by rw [ha]; exact putSel_on (e := (4, 47, .nilIface)) 4 rfl rfl (hon 4 (by kernel_rfl)) rfl
                have e46 : a.tmps[46]? = some (.bool true) := by rw [ha]; exact putSel_on (e := (3, 46, .bool true)) 3 rfl rfl (hon 3 (by kernel_rfl)) rfl
                replace ha := Aside0.mk ha
                have HBr := Aside0.mk Q_HBr
                have FX := Aside0.mk Q_FX
                have FY := Aside0.mk Q_FY
                have SX := Aside0.mk Q_SX
                have SY := Aside0.mk Q_SY
                have FA := Aside0.mk Q_FA
                refine value_ (w1 := w') (v := .bool true) (wanted_on rfl rfl rfl (e46.trans (by first | rfl | (simp [*]; done)))) rfl ?_ ?_
                · go_simp
                  (try simp only [i64_w])
                  try rfl
                refine hK.out _ _ ⟨(by rw [ha.out]; exact putSel_upk 5 hb_ rfl rfl rfl), Q_HBr, Q_FX, Q_FY, Q_SX, Q_SY, Q_FA⟩
              refine steps_cons ?_ ?_
              · rintro b a w' ⟨ha, Q_HBr, Q_FX, Q_FY, Q_SX, Q_SY, Q_FA⟩ hb_ hon hoff
                refine ⟨_, rfl, fun K hK => ?_⟩
                have e8 : a.tmps[8]? = some (.bool true) := by rw [ha]; exact (putSel_off rfl).trans rfl
                have e46 : a.tmps[46]? = some (.bool true) := by rw [ha]; exact putSel_on (e := (3, 46, .bool true)) 3 rfl rfl (hon 3 (by kernel_rfl)) rfl
                replace ha := Aside0.mk ha
                have HBr := Aside0.mk Q_HBr
                have FX := Aside0.mk Q_FX
                have FY := Aside0.mk Q_FY
                have SX := Aside0.mk Q_SX
                have SY := Aside0.mk Q_SY
                have FA := Aside0.mk Q_FA
                refine value_ (w1 := w') (v := .bool true) (wanted_on rfl rfl rfl (e46.trans (by first | rfl | (simp [*]; done)))) rfl ?_ ?_
                · go_simp
                  (try simp only [i64_w])
                  try rfl
                refine hK.out _ _ ⟨(by rw [ha.out]; exact putSel_upk 6 hb_ rfl rfl rfl), Q_HBr, Q_FX, Q_FY, Q_SX, Q_SY, Q_FA⟩
              refine steps_cons ?_ ?_
              · rintro b a w' ⟨ha, Q_HBr, Q_FX, Q_FY, Q_SX, Q_SY, Q_FA⟩ hb_ hon hoff
                refine ⟨_, rfl, fun K hK => ?_⟩
                have e48 : a.tmps[48]? = some (.bool true) := by rw [ha]; exact putSel_on (e := (5, 48, .bool true)) 5 rfl rfl (hon 5 (by kernel_rfl)) rfl
                have e49 : a.tmps[49]? = some (.bool true) := by rw [ha]; exact putSel_on (e := (6, 49, .bool true)) 6 rfl rfl (hon 6 (by kernel_rfl)) rfl
                have e46 : a.tmps[46]? = some (.bool true) := by rw [ha]; exact putSel_on (e := (3, 46, .bool true)) 3 rfl rfl (hon 3 (by kernel_rfl)) rfl
                replace ha := Aside0.mk ha
                have HBr := Aside0.mk Q_HBr
                have FX := Aside0.mk Q_FX
                have FY := Aside0.mk Q_FY
                have SX := Aside0.mk Q_SX
                have SY := Aside0.mk Q_SY
                have FA := Aside0.mk Q_FA
                refine value_ (w1 := w') (v := .bool true) (wanted_on rfl rfl rfl (e46.trans (by first | rfl | (simp [*]; done)))) rfl ?_ ?_
                · go_simp
                  (try simp only [i64_w])
                  try rfl
                refine hK.out _ _ ⟨(by rw [ha.out]; exact putSel_upk 7 hb_ rfl rfl rfl), Q_HBr, Q_FX, Q_FY, Q_SX, Q_SY, Q_FA⟩
              refine steps_cons ?_ ?_
              · rintro b a w' ⟨ha, Q_HBr, Q_FX, Q_FY, Q_SX, Q_SY, Q_FA⟩ hb_ hon hoff
                refine ⟨_, rfl, fun K hK => ?_⟩
                have e46 : a.tmps[46]? = some (.bool true) := by rw [ha]; exact putSel_on (e := (3, 46, .bool true)) 3 rfl rfl (hon 3 (by kernel_rfl)) rfl
                have e50 : a.tmps[50]? = some (.bool true) := by rw [ha]; exact putSel_on (e := (7, 50, .bool true)) 7 rfl rfl (hon 7 (by kernel_rfl)) rfl
                replace ha := Aside0.mk ha
                have HBr := Aside0.mk Q_HBr
                have FX := Aside0.mk Q_FX
                have FY := Aside0.mk Q_FY
                have SX := Aside0.mk Q_SX
                have SY := Aside0.mk Q_SY
                have FA := Aside0.mk Q_FA
                refine value_ (w1 := w') (v := .bool true) ?cA ?cB ?_ ?_
                case cA => rfl
                case cB => rfl
                · go_simp
                  (try simp only [i64_w])
                  try rfl
                refine hK.out _ _ ⟨(by rw [ha.out]; exact putSel_upk 8 hb_ rfl rfl rfl), Q_HBr, Q_FX, Q_FY, Q_SX, Q_SY, Q_FA⟩
              refine steps_cons ?_ ?_
              · rintro b a w' ⟨ha, Q_HBr, Q_FX, Q_FY, Q_SX, Q_SY, Q_FA⟩ hb_ hon hoff
                refine ⟨_, rfl, fun K hK => ?_⟩
                have e51 : a.tmps[51]? = some (.bool true) := by rw [ha]; exact putSel_on (e := (8, 51, .bool true)) 8 rfl rfl (hon 8 (by kernel_rfl)) rfl
                replace ha := Aside0.mk ha
                have HBr := Aside0.mk Q_HBr
                have FX := Aside0.mk Q_FX
                have FY := Aside0.mk Q_FY
                have SX := Aside0.mk Q_SX
                have SY := Aside0.mk Q_SY
                have FA := Aside0.mk Q_FA
                refine value_ (w1 := w') (v := .bool true) ?cA ?cB ?_ ?_
                case cA => rfl
                case cB => rfl
                · go_simp
                  (try simp only [i64_w])
                  try rfl
                refine hK.out _ _ ⟨(by rw [ha.out]; exact putSel_upk 9 hb_ rfl rfl rfl), Q_HBr, Q_FX, Q_FY, Q_SX, Q_SY, Q_FA⟩
              refine steps_cons ?_ ?_
              · rintro b a w' ⟨ha, Q_HBr, Q_FX, Q_FY, Q_SX, Q_SY, Q_FA⟩ hb_ hon hoff
                refine ⟨_, rfl, fun K hK => ?_⟩
                have e6 : a.tmps[6]? = some (.nilIface) := by rw [ha]; exact (putSel_off rfl).trans rfl
                have e52 : a.tmps[52]? = some (.bool true) := by rw [ha]; exact putSel_on (e := (9, 52, .bool true)) 9 rfl rfl (hon 9 (by kernel_rfl)) rfl
                replace ha := Aside0.mk ha
                have HBr := Aside0.mk Q_HBr
                have FX := Aside0.mk Q_FX
                have FY := Aside0.mk Q_FY
                have SX := Aside0.mk Q_SX
                have SY := Aside0.mk Q_SY
                have FA := Aside0.mk Q_FA
                refine value_ (w1 := w') (v := .nilIface) (wanted_on rfl rfl rfl (e52.trans (by first | rfl | (simp [*]; done)))) rfl ?_ ?_
                · go_simp
                  (try simp only [i64_w])
                  try rfl
                refine hK.out _ _ ⟨(by rw [ha.out]; exact putSel_upk 10 hb_ rfl rfl rfl), Q_HBr, Q_FX, Q_FY, Q_SX, Q_SY, Q_FA⟩
              refine steps_cons ?_ ?_
              · rintro b a w' ⟨ha, Q_HBr, Q_FX, Q_FY, Q_SX, Q_SY, Q_FA⟩ hb_ hon hoff
                refine ⟨_, rfl, fun K hK => ?_⟩
                have e53 : a.tmps[53]? = some (.nilIface) := by rw [ha]; exact putSel_on (e := (10, 53, .nilIface)) 10 rfl rfl (hon 10 (by kernel_rfl)) rfl
                have e52 : a.tmps[52]? = some (.bool true) := by rw [ha]; exact putSel_on (e := (9, 52, .bool true)) 9 rfl rfl (hon 9 (by kernel_rfl)) rfl
                replace ha := Aside0.mk ha
                have HBr := Aside0.mk Q_HBr
                have FX := Aside0.mk Q_FX
                have FY := Aside0.mk Q_FY
                have SX := Aside0.mk Q_SX
                have SY := Aside0.mk Q_SY
                have FA := Aside0.mk Q_FA
                refine value_ (w1 := w') (v := .bool true) (wanted_on rfl rfl rfl (e52.trans (by first | rfl | (simp [*]; done)))) rfl ?_ ?_
                · go_simp
                  (try simp only [i64_w])
                  try rfl
                refine hK.out _ _ ⟨(by rw [ha.out]; exact putSel_upk 11 hb_ rfl rfl rfl), Q_HBr, Q_FX, Q_FY, Q_SX, Q_SY, Q_FA⟩
              refine steps_cons ?_ ?_
              · rintro b a w' ⟨ha, Q_HBr, Q_FX, Q_FY, Q_SX, Q_SY, Q_FA⟩ hb_ hon hoff
                refine ⟨_, rfl, fun K hK => ?_⟩
                have e54 : a.tmps[54]? = some (.bool true) := by rw [ha]; exact putSel_on (e := (11, 54, .bool true)) 11 rfl rfl (hon 11 (by kernel_rfl)) rfl
                have e52 : a.tmps[52]? = some (.bool true) := by rw [ha]; exact putSel_on (e := (9, 52, .bool true)) 9 rfl rfl (hon 9 (by kernel_rfl)) rfl
                replace ha := Aside0.mk ha
                have HBr := Aside0.mk Q_HBr
                have FX := Aside0.mk Q_FX
                have FY := Aside0.mk Q_FY
                have SX := Aside0.mk Q_SX
                have SY := Aside0.mk Q_SY
                have FA := Aside0.mk Q_FA
                refine value_ (w1 := w') (v := .bool true) (wanted_on rfl rfl rfl (e52.trans (by first | rfl | (simp [*]; done)))) rfl ?_ ?_
                · go_simp
                  (try simp only [i64_w])
                  try rfl
                refine hK.out _ _ ⟨(by rw [ha.out]; exact putSel_upk 12 hb_ rfl rfl rfl), Q_HBr, Q_FX, Q_FY, Q_SX, Q_SY, Q_FA⟩
              refine steps_cons ?_ ?_
              · rintro b a w' ⟨ha, Q_HBr, Q_FX, Q_FY, Q_SX, Q_SY, Q_FA⟩ hb_ hon hoff
                refine ⟨_, rfl, fun K hK => ?_⟩
                have e55 : a.tmps[55]? = some (.bool true) := by rw [ha]; exact putSel_on (e := (12, 55, .bool true)) 12 rfl rfl (hon 12 (by kernel_rfl)) rfl
                replace ha := Aside0.mk ha
                have HBr := Aside0.mk Q_HBr
                have FX := Aside0.mk Q_FX
                have FY := Aside0.mk Q_FY
                have SX := Aside0.mk Q_SX
                have SY := Aside0.mk Q_SY
                have FA := Aside0.mk Q_FA
                refine off_ (wanted_off rfl rfl rfl (e55.trans (by first | rfl | (simp [*]; done)))) ?_
                refine hK.out _ _ ⟨(by rw [ha.out]; exact putSel_upk 13 hb_ rfl rfl rfl), Q_HBr, Q_FX, Q_FY, Q_SX, Q_SY, Q_FA⟩
              refine steps_cons ?_ ?_
              · rintro b a w' ⟨ha, Q_HBr, Q_FX, Q_FY, Q_SX, Q_SY, Q_FA⟩ hb_ hon hoff
                refine ⟨_, rfl, fun K hK => ?_⟩
                have e55 : a.tmps[55]? = some (.bool true) := by rw [ha]; exact putSel_on (e := (12, 55, .bool true)) 12 rfl rfl (hon 12 (by kernel_rfl)) rfl
                replace ha := Aside0.mk ha
                have HBr := Aside0.mk Q_HBr
                have FX := Aside0.mk Q_FX
                have FY := Aside0.mk Q_FY
                have SX := Aside0.mk Q_SX
                have SY := Aside0.mk Q_SY
                have FA := Aside0.mk Q_FA
                refine off_ (wanted_off rfl rfl rfl (e55.trans (by first | rfl | (simp [*]; done)))) ?_
                refine hK.out _ _ ⟨(by rw [ha.out]; exact putSel_upk 14 hb_ rfl rfl rfl), Q_HBr, Q_FX, Q_FY, Q_SX, Q_SY, Q_FA⟩
              refine steps_cons ?_ ?_
              · rintro b a w' ⟨ha, Q_HBr, Q_FX, Q_FY, Q_SX, Q_SY, Q_FA⟩ hb_ hon hoff
                refine ⟨_, rfl, fun K hK => ?_⟩
                have e55 : a.tmps[55]? = some (.bool true) := by rw [ha]; exact putSel_on (e := (12, 55, .bool true)) 12 rfl rfl (hon 12 (by kernel_rfl)) rfl
                replace ha := Aside0.mk ha
                have HBr := Aside0.mk Q_HBr
                have FX := Aside0.mk Q_FX
                have FY := Aside0.mk Q_FY
                have SX := Aside0.mk Q_SX
                have SY := Aside0.mk Q_SY
                have FA := Aside0.mk Q_FA
                refine off_ (wanted_off rfl rfl rfl (e55.trans (by first | rfl | (simp [*]; done)))) ?_
                refine hK.out _ _ ⟨(by rw [ha.out]; exact putSel_upk 15 hb_ rfl rfl rfl), Q_HBr, Q_FX, Q_FY, Q_SX, Q_SY, Q_FA⟩
              refine steps_cons ?_ ?_
              · rintro b a w' ⟨ha, Q_HBr, Q_FX, Q_FY, Q_SX, Q_SY, Q_FA⟩ hb_ hon hoff
                refine ⟨_, rfl, fun K hK => ?_⟩
                have e55 : a.tmps[55]? = some (.bool true) := by rw [ha]; exact putSel_on (e := (12, 55, .bool true)) 12 rfl rfl (hon 12 (by kernel_rfl)) rfl
                have e58 : a.tmps[58]? = some (undef) := by rw [ha]; exact putSel_on (e := (15, 58, undef)) 15 rfl rfl (hon 15 (by kernel_rfl)) rfl
                have e52 : a.tmps[52]? = some (.bool true) := by rw [ha]; exact putSel_on (e := (9, 52, .bool true)) 9 rfl rfl (hon 9 (by kernel_rfl)) rfl
                replace ha := Aside0.mk ha
                have HBr := Aside0.mk Q_HBr
                have FX := Aside0.mk Q_FX
                have FY := Aside0.mk Q_FY
                have SX := Aside0.mk Q_SX
                have SY := Aside0.mk Q_SY
                have FA := Aside0.mk Q_FA
                refine value_ (w1 := w') (v := .bool true) (wanted_on rfl rfl rfl (e52.trans (by first | rfl | (simp [*]; done)))) rfl ?_ ?_
                · go_simp
                  (try simp only [i64_w])
                  try rfl
                refine hK.out _ _ ⟨(by rw [ha.out]; exact putSel_upk 16 hb_ rfl rfl rfl), Q_HBr, Q_FX, Q_FY, Q_SX, Q_SY, Q_FA⟩
              refine steps_cons ?_ ?_
              · rintro b a w' ⟨ha, Q_HBr, Q_FX, Q_FY, Q_SX, Q_SY, Q_FA⟩ hb_ hon hoff
                refine ⟨_, rfl, fun K hK => ?_⟩
                have e52 : a.tmps[52]? = some (.bool true) := by rw [ha]; exact putSel_on (e := (9, 52, .bool true)) 9 rfl rfl (hon 9 (by kernel_rfl)) rfl
                have e59 : a.tmps[59]? = some (.bool true) := by rw [ha]; exact putSel_on (e := (16, 59, .bool true)) 16 rfl rfl (hon 16 (by kernel_rfl)) rfl
                replace ha := Aside0.mk ha
                have HBr := Aside0.mk Q_HBr
                have FX := Aside0.mk Q_FX
                have FY := Aside0.mk Q_FY
                have SX := Aside0.mk Q_SX
                have SY := Aside0.mk Q_SY
                have FA := Aside0.mk Q_FA
                refine value_ (w1 := w') (v := .bool true) ?cA ?cB ?_ ?_
                case cA => rfl
                case cB => rfl
                · go_simp
                  (try simp only [i64_w])
                  try rfl
                refine hK.out _ _ ⟨(by rw [ha.out]; exact putSel_upk 17 hb_ rfl rfl rfl), Q_HBr, Q_FX, Q_FY, Q_SX, Q_SY, Q_FA⟩
              refine steps_cons ?_ ?_
              · rintro b a w' ⟨ha, Q_HBr, Q_FX, Q_FY, Q_SX, Q_SY, Q_FA⟩ hb_ hon hoff
                refine ⟨_, rfl, fun K hK => ?_⟩
                have e60 : a.tmps[60]? = some (.bool true) := by rw [ha]; exact putSel_on (e := (17, 60, .bool true)) 17 rfl rfl (hon 17 (by kernel_rfl)) rfl
                replace ha := Aside0.mk ha
                have HBr := Aside0.mk Q_HBr
                have FX := Aside0.mk Q_FX
                have FY := Aside0.mk Q_FY
                have SX := Aside0.mk Q_SX
                have SY := Aside0.mk Q_SY
                have FA := Aside0.mk Q_FA
                refine value_ (w1 := w') (v := .bool true) ?cA ?cB ?_ ?_
                case cA => rfl
                case cB => rfl
                · go_simp
                  (try simp only [i64_w])
                  try rfl
                refine hK.out _ _ ⟨(by rw [ha.out]; exact putSel_upk 18 hb_ rfl rfl rfl), Q_HBr, Q_FX, Q_FY, Q_SX, Q_SY, Q_FA⟩
              refine steps_cons ?_ ?_
              · rintro b a w' ⟨ha, Q_HBr, Q_FX, Q_FY, Q_SX, Q_SY, Q_FA⟩ hb_ hon hoff
                refine ⟨_, rfl, fun K hK => ?_⟩
                have e2 : a.tmps[2]? = some (.pointer (some ⟨xb, 0, none⟩)) := by rw [ha]; exact (putSel_off rfl).trans rfl
                have e61 : a.tmps[61]? = some (.bool true) := by rw [ha]; exact putSel_on (e := (18, 61, .bool true)) 18 rfl rfl (hon 18 (by kernel_rfl)) rfl
                replace ha := Aside0.mk ha
                have HBr := Aside0.mk Q_HBr
                have FX := Aside0.mk Q_FX
                have FY := Aside0.mk Q_FY
                have SX := Aside0.mk Q_SX
                have SY := Aside0.mk Q_SY
                have FA := Aside0.mk Q_FA
                have z0_ : w'.cell? ⟨xb, 0, none⟩ = some (.int .i64 x.f0.f0) := (blk_cell (FX.out) 0).trans rfl
                have z1_ : w'.cell? ⟨xb, 1, none⟩ = some (.int .i64 x.f0.f1) := (blk_cell (FX.out) 1).trans rfl
                have z2_ : w'.cell? ⟨xb, 2, none⟩ = some (.int .i64 x.f0.f2) := (blk_cell (FX.out) 2).trans rfl
                have z3_ : w'.cell? ⟨xb, 3, none⟩ = some (.int .i64 x.f0.f3) := (blk_cell (FX.out) 3).trans rfl
                have z4_ : w'.cell? ⟨xb, 4, none⟩ = some (.int .i64 x.f0.f4) := (blk_cell (FX.out) 4).trans rfl
                have z5_ : w'.cell? ⟨xb, 5, none⟩ = some (.slice A5 x5 c5) := (blk_cell (FX.out) 5).trans rfl
                have z6_ : w'.cell? ⟨xb, 6, none⟩ = some (.slice A6 x6 c6) := (blk_cell (FX.out) 6).trans rfl
                refine value_ (w1 := w') (v := .agg #[.int .i64 x.f0.f0, .int .i64 x.f0.f1, .int .i64 x.f0.f2, .int .i64 x.f0.f3, .int .i64 x.f0.f4, .slice A5 x5 c5, .slice A6 x6 c6]) (wanted_on rfl rfl rfl (e61.trans (by first | rfl | (simp [*]; done)))) rfl ?_ ?_
                · go_simp
                  (try simp only [i64_w])
                  try rfl
                refine hK.out _ _ ⟨(by rw [ha.out]; exact putSel_upk 19 hb_ rfl rfl rfl), Q_HBr, Q_FX, Q_FY, Q_SX, Q_SY, Q_FA⟩
              refine steps_cons ?_ ?_
              · rintro b a w' ⟨ha, Q_HBr, Q_FX, Q_FY, Q_SX, Q_SY, Q_FA⟩ hb_ hon hoff
                refine ⟨_, rfl, fun K hK => ?_⟩
                have e62 : a.tmps[62]? = some (.agg #[.int .i64 x.f0.f0, .int .i64 x.f0.f1, .int .i64 x.f0.f2, .int .i64 x.f0.f3, .int .i64 x.f0.f4, .slice A5 x5 c5, .slice A6 x6 c6]) := by rw [ha]; exact putSel_on (e := (19, 62, .agg #[.int .i64 x.f0.f0, .int .i64 x.f0.f1, .int .i64 x.f0.f2, .int .i64 x.f0.f3, .int .i64 x.f0.f4, .slice A5 x5 c5, .slice A6 x6 c6])) 19 rfl rfl (hon 19 (by kernel_rfl)) rfl
                have e61 : a.tmps[61]? = some (.bool true) := by rw [ha]; exact putSel_on (e := (18, 61, .bool true)) 18 rfl rfl (hon 18 (by kernel_rfl)) rfl
                replace ha := Aside0.mk ha
                have HBr := Aside0.mk Q_HBr
                have FX := Aside0.mk Q_FX
                have FY := Aside0.mk Q_FY
                have SX := Aside0.mk Q_SX
                have SY := Aside0.mk Q_SY
                have FA := Aside0.mk Q_FA
                refine goes_ Tryd.func11 (by kernel_rfl) rfl #[.agg #[.int .i64 x.f0.f0, .int .i64 x.f0.f1, .int .i64 x.f0.f2, .int .i64 x.f0.f3, .int .i64 x.f0.f4, .slice A5 x5 c5, .slice A6 x6 c6]] (wanted_on rfl rfl rfl (e61.trans (by first | rfl | (simp [*]; done)))) rfl rfl (by first | (simp only [List.map_toArray, List.map_cons, List.map_nil, Act.eval, Array.getD_eq_getD_getElem?, Option.getD_some, e62, e61]; done) | (simp only [List.map_toArray, List.map_cons, List.map_nil, Act.eval, Array.getD_eq_getD_getElem?, Option.getD_some, e62, e61]; rfl)) ?_
                refine (good_c SX.out aA FA.out).mono ?_
                rintro e w1 ⟨hr_, hb1⟩
                rw [HGG.out] at hr_
                subst hr_
                refine ⟨_, rfl, ?_⟩
                refine hK.out _ _ ⟨(by rw [ha.out]; exact putSel_upk 20 hb_ rfl rfl rfl), below_step HBr.out hb1, blk_below hb1 FX.out, blk_below hb1 FY.out, SV_below SX.out hb1, SV_below SY.out hb1, pw_cell_below hb1 FA.out⟩
              refine steps_cons ?_ ?_
              · rintro b a w' ⟨ha, Q_HBr, Q_FX, Q_FY, Q_SX, Q_SY, Q_FA⟩ hb_ hon hoff
                refine ⟨_, rfl, fun K hK => ?_⟩
                have e2 : a.tmps[2]? = some (.pointer (some ⟨xb, 0, none⟩)) := by rw [ha]; exact (putSel_off rfl).trans rfl
                have e61 : a.tmps[61]? = some (.bool true) := by rw [ha]; exact putSel_on (e := (18, 61, .bool true)) 18 rfl rfl (hon 18 (by kernel_rfl)) rfl
                replace ha := Aside0.mk ha
                have HBr := Aside0.mk Q_HBr
                have FX := Aside0.mk Q_FX
                have FY := Aside0.mk Q_FY
                have SX := Aside0.mk Q_SX
                have SY := Aside0.mk Q_SY
                have FA := Aside0.mk Q_FA
                have z0_ : w'.cell? ⟨xb, 0, none⟩ = some (.int .i64 x.f0.f0) := (blk_cell (FX.out) 0).trans rfl
                have z1_ : w'.cell? ⟨xb, 1, none⟩ = some (.int .i64 x.f0.f1) := (blk_cell (FX.out) 1).trans rfl
                have z2_ : w'.cell? ⟨xb, 2, none⟩ = some (.int .i64 x.f0.f2) := (blk_cell (FX.out) 2).trans rfl
                have z3_ : w'.cell? ⟨xb, 3, none⟩ = some (.int .i64 x.f0.f3) := (blk_cell (FX.out) 3).trans rfl
                have z4_ : w'.cell? ⟨xb, 4, none⟩ = some (.int .i64 x.f0.f4) := (blk_cell (FX.out) 4).trans rfl
                have z5_ : w'.cell? ⟨xb, 5, none⟩ = some (.slice A5 x5 c5) := (blk_cell (FX.out) 5).trans rfl
                have z6_ : w'.cell? ⟨xb, 6, none⟩ = some (.slice A6 x6 c6) := (blk_cell (FX.out) 6).trans rfl
                refine value_ (w1 := w') (v := .agg #[.int .i64 x.f0.f0, .int .i64 x.f0.f1, .int .i64 x.f0.f2, .int .i64 x.f0.f3, .int .i64 x.f0.f4, .slice A5 x5 c5, .slice A6 x6 c6]) (wanted_on rfl rfl rfl (e61.trans (by first | rfl | (simp [*]; done)))) rfl ?_ ?_
                · go_simp
                  (try simp only [i64_w])
                  try rfl
                refine hK.out _ _ ⟨(by rw [ha.out]; exact putSel_upk 21 hb_ rfl rfl rfl), Q_HBr, Q_FX, Q_FY, Q_SX, Q_SY, Q_FA⟩
              refine steps_cons ?_ ?_
              · rintro b a w' ⟨ha, Q_HBr, Q_FX, Q_FY, Q_SX, Q_SY, Q_FA⟩ hb_ hon hoff
                refine ⟨_, rfl, fun K hK => ?_⟩
                have e64 : a.tmps[64]? = some (.agg #[.int .i64 x.f0.f0, .int .i64 x.f0.f1, .int .i64 x.f0.f2, .int .i64 x.f0.f3, .int .i64 x.f0.f4, .slice A5 x5 c5, .slice A6 x6 c6]) := by rw [ha]; exact putSel_on (e := (21, 64, .agg #[.int .i64 x.f0.f0, .int .i64 x.f0.f1, .int .i64 x.f0.f2, .int .i64 x.f0.f3, .int .i64 x.f0.f4, .slice A5 x5 c5, .slice A6 x6 c6])) 21 rfl rfl (hon 21 (by kernel_rfl)) rfl
                have e61 : a.tmps[61]? = some (.bool true) := by rw [ha]; exact putSel_on (e := (18, 61, .bool true)) 18 rfl rfl (hon 18 (by kernel_rfl)) rfl
                replace ha := Aside0.mk ha
                have HBr := Aside0.mk Q_HBr
                have FX := Aside0.mk Q_FX
                have FY := Aside0.mk Q_FY
                have SX := Aside0.mk Q_SX
                have SY := Aside0.mk Q_SY
                have FA := Aside0.mk Q_FA
                refine goes_ Tryd.func17 (by kernel_rfl) rfl #[.agg #[.int .i64 x.f0.f0, .int .i64 x.f0.f1, .int .i64 x.f0.f2, .int .i64 x.f0.f3, .int .i64 x.f0.f4, .slice A5 x5 c5, .slice A6 x6 c6]] (wanted_on rfl rfl rfl (e61.trans (by first | rfl | (simp [*]; done)))) rfl rfl (by first | (simp only [List.map_toArray, List.map_cons, List.map_nil, Act.eval, Array.getD_eq_getD_getElem?, Option.getD_some, e64, e61]; done) | (simp only [List.map_toArray, List.map_cons, List.map_nil, Act.eval, Array.getD_eq_getD_getElem?, Option.getD_some, e64, e61]; rfl)) ?_
                refine (rgood_c SX.out).mono ?_
                rintro e w1 ⟨hr_, hb1⟩
                rw [HGG.out] at hr_
                subst hr_
                refine ⟨_, rfl, ?_⟩
                refine hK.out _ _ ⟨(by rw [ha.out]; exact putSel_upk 22 hb_ rfl rfl rfl), below_step HBr.out hb1, blk_below hb1 FX.out, blk_below hb1 FY.out, SV_below SX.out hb1, SV_below SY.out hb1, pw_cell_below hb1 FA.out⟩
              refine steps_cons ?_ ?_
              · rintro b a w' ⟨ha, Q_HBr, Q_FX, Q_FY, Q_SX, Q_SY, Q_FA⟩ hb_ hon hoff
                refine ⟨_, rfl, fun K hK => ?_⟩
                have e63 : a.tmps[63]? = some (.bool gg) := by rw [ha]; exact putSel_on (e := (20, 63, .bool gg)) 20 rfl rfl (hon 20 (by kernel_rfl)) rfl
                have e65 : a.tmps[65]? = some (.bool gg) := by rw [ha]; exact putSel_on (e := (22, 65, .bool gg)) 22 rfl rfl (hon 22 (by kernel_rfl)) rfl
                have e61 : a.tmps[61]? = some (.bool true) := by rw [ha]; exact putSel_on (e := (18, 61, .bool true)) 18 rfl rfl (hon 18 (by kernel_rfl)) rfl
                replace ha := Aside0.mk ha
                have HBr := Aside0.mk Q_HBr
                have FX := Aside0.mk Q_FX
                have FY := Aside0.mk Q_FY
                have SX := Aside0.mk Q_SX
                have SY := Aside0.mk Q_SY
                have FA := Aside0.mk Q_FA
                refine value_ (w1 := w') (v := .bool true) (wanted_on rfl rfl rfl (e61.trans (by first | rfl | (simp [*]; done)))) rfl ?_ ?_
                · go_simp
                  (try simp only [i64_w])
                  try rfl
                refine hK.out _ _ ⟨(by rw [ha.out]; exact putSel_upk 23 hb_ rfl rfl rfl), Q_HBr, Q_FX, Q_FY, Q_SX, Q_SY, Q_FA⟩
              refine steps_cons ?_ ?_
              · rintro b a w' ⟨ha, Q_HBr, Q_FX, Q_FY, Q_SX, Q_SY, Q_FA⟩ hb_ hon hoff
                refine ⟨_, rfl, fun K hK => ?_⟩
                have e61 : a.tmps[61]? = some (.bool true) := by rw [ha]; exact putSel_on (e := (18, 61, .bool true)) 18 rfl rfl (hon 18 (by kernel_rfl)) rfl
                have e66 : a.tmps[66]? = some (.bool true) := by rw [ha]; exact putSel_on (e := (23, 66, .bool true)) 23 rfl rfl (hon 23 (by kernel_rfl)) rfl
                replace ha := Aside0.mk ha
                have HBr := Aside0.mk Q_HBr
                have FX := Aside0.mk Q_FX
                have FY := Aside0.mk Q_FY
                have SX := Aside0.mk Q_SX
                have SY := Aside0.mk Q_SY
                have FA := Aside0.mk Q_FA
                refine value_ (w1 := w') (v := .bool true) ?cA ?cB ?_ ?_
                case cA => rfl
                case cB => rfl
                · go_simp
                  (try simp only [i64_w])
                  try rfl
                refine hK.out _ _ ⟨(by rw [ha.out]; exact putSel_upk 24 hb_ rfl rfl rfl), Q_HBr, Q_FX, Q_FY, Q_SX, Q_SY, Q_FA⟩
              refine steps_cons ?_ ?_
              · rintro b a w' ⟨ha, Q_HBr, Q_FX, Q_FY, Q_SX, Q_SY, Q_FA⟩ hb_ hon hoff
                refine ⟨_, rfl, fun K hK => ?_⟩
                have e67 : a.tmps[67]? = some (.bool true) := by rw [ha]; exact putSel_on (e := (24, 67, .bool true)) 24 rfl rfl (hon 24 (by kernel_rfl)) rfl
                replace ha := Aside0.mk ha
                have HBr := Aside0.mk Q_HBr
                have FX := Aside0.mk Q_FX
                have FY := Aside0.mk Q_FY
                have SX := Aside0.mk Q_SX
                have SY := Aside0.mk Q_SY
                have FA := Aside0.mk Q_FA
                refine value_ (w1 := w') (v := .bool true) ?cA ?cB ?_ ?_
                case cA => rfl
                case cB => rfl
                · go_simp
                  (try simp only [i64_w])
                  try rfl
                refine hK.out _ _ ⟨(by rw [ha.out]; exact putSel_upk 25 hb_ rfl rfl rfl), Q_HBr, Q_FX, Q_FY, Q_SX, Q_SY, Q_FA⟩
              refine steps_cons ?_ ?_
              · rintro b a w' ⟨ha, Q_HBr, Q_FX, Q_FY, Q_SX, Q_SY, Q_FA⟩ hb_ hon hoff
                refine ⟨_, rfl, fun K hK => ?_⟩
                have e2 : a.tmps[2]? = some (.pointer (some ⟨xb, 0, none⟩)) := by rw [ha]; exact (putSel_off rfl).trans rfl
                have e68 : a.tmps[68]? = some (.bool true) := by rw [ha]; exact putSel_on (e := (25, 68, .bool true)) 25 rfl rfl (hon 25 (by kernel_rfl)) rfl
                replace ha := Aside0.mk ha
                have HBr := Aside0.mk Q_HBr
                have FX := Aside0.mk Q_FX
                have FY := Aside0.mk Q_FY
                have SX := Aside0.mk Q_SX
                have SY := Aside0.mk Q_SY
                have FA := Aside0.mk Q_FA
                have z0_ : w'.cell? ⟨xb, 0, none⟩ = some (.int .i64 x.f0.f0) := (blk_cell (FX.out) 0).trans rfl
                have z1_ : w'.cell? ⟨xb, 1, none⟩ = some (.int .i64 x.f0.f1) := (blk_cell (FX.out) 1).trans rfl
                have z2_ : w'.cell? ⟨xb, 2, none⟩ = some (.int .i64 x.f0.f2) := (blk_cell (FX.out) 2).trans rfl
                have z3_ : w'.cell? ⟨xb, 3, none⟩ = some (.int .i64 x.f0.f3) := (blk_cell (FX.out) 3).trans rfl
                have z4_ : w'.cell? ⟨xb, 4, none⟩ = some (.int .i64 x.f0.f4) := (blk_cell (FX.out) 4).trans rfl
                have z5_ : w'.cell? ⟨xb, 5, none⟩ = some (.slice A5 x5 c5) := (blk_cell (FX.out) 5).trans rfl
                have z6_ : w'.cell? ⟨xb, 6, none⟩ = some (.slice A6 x6 c6) := (blk_cell (FX.out) 6).trans rfl
                refine value_ (w1 := w') (v := .agg #[.int .i64 x.f0.f0, .int .i64 x.f0.f1, .int .i64 x.f0.f2, .int .i64 x.f0.f3, .int .i64 x.f0.f4, .slice A5 x5 c5, .slice A6 x6 c6]) (wanted_on rfl rfl rfl (e68.trans (by first | rfl | (simp [*]; done)))) rfl ?_ ?_
                · go_simp
                  (try simp only [i64_w])
                  try rfl
                refine hK.out _ _ ⟨(by rw [ha.out]; exact putSel_upk 26 hb_ rfl rfl rfl), Q_HBr, Q_FX, Q_FY, Q_SX, Q_SY, Q_FA⟩
              refine steps_cons ?_ ?_
              · rintro b a w' ⟨ha, Q_HBr, Q_FX, Q_FY, Q_SX, Q_SY, Q_FA⟩ hb_ hon hoff
                refine ⟨_, rfl, fun K hK => ?_⟩
                have e3 : a.tmps[3]? = some (.pointer (some ⟨yb, 0, none⟩)) := by rw [ha]; exact (putSel_off rfl).trans rfl
                have e68 : a.tmps[68]? = some (.bool true) := by rw [ha]; exact putSel_on (e := (25, 68, .bool true)) 25 rfl rfl (hon 25 (by kernel_rfl)) rfl
                replace ha := Aside0.mk ha
                have HBr := Aside0.mk Q_HBr
                have FX := Aside0.mk Q_FX
                have FY := Aside0.mk Q_FY
                have SX := Aside0.mk Q_SX
                have SY := Aside0.mk Q_SY
                have FA := Aside0.mk Q_FA
                have z0_ : w'.cell? ⟨yb, 0, none⟩ = some (.int .i64 y.f0.f0) := (blk_cell (FY.out) 0).trans rfl
                have z1_ : w'.cell? ⟨yb, 1, none⟩ = some (.int .i64 y.f0.f1) := (blk_cell (FY.out) 1).trans rfl
                have z2_ : w'.cell? ⟨yb, 2, none⟩ = some (.int .i64 y.f0.f2) := (blk_cell (FY.out) 2).trans rfl
                have z3_ : w'.cell? ⟨yb, 3, none⟩ = some (.int .i64 y.f0.f3) := (blk_cell (FY.out) 3).trans rfl
                have z4_ : w'.cell? ⟨yb, 4, none⟩ = some (.int .i64 y.f0.f4) := (blk_cell (FY.out) 4).trans rfl
                have z5_ : w'.cell? ⟨yb, 5, none⟩ = some (.slice B5 y5 d5) := (blk_cell (FY.out) 5).trans rfl
                have z6_ : w'.cell? ⟨yb, 6, none⟩ = some (.slice B6 y6 d6) := (blk_cell (FY.out) 6).trans rfl
                refine value_ (w1 := w') (v := .agg #[.int .i64 y.f0.f0, .int .i64 y.f0.f1, .int .i64 y.f0.f2, .int .i64 y.f0.f3, .int .i64 y.f0.f4, .slice B5 y5 d5, .slice B6 y6 d6]) (wanted_on rfl rfl rfl (e68.trans (by first | rfl | (simp [*]; done)))) rfl ?_ ?_
                · go_simp
                  (try simp only [i64_w])
                  try rfl
                refine hK.out _ _ ⟨(by rw [ha.out]; exact putSel_upk 27 hb_ rfl rfl rfl), Q_HBr, Q_FX, Q_FY, Q_SX, Q_SY, Q_FA⟩
              refine steps_cons ?_ ?_
              · rintro b a w' ⟨ha, Q_HBr, Q_FX, Q_FY, Q_SX, Q_SY, Q_FA⟩ hb_ hon hoff
                refine ⟨_, rfl, fun K hK => ?_⟩
                have e69 : a.tmps[69]? = some (.agg #[.int .i64 x.f0.f0, .int .i64 x.f0.f1, .int .i64 x.f0.f2, .int .i64 x.f0.f3, .int .i64 x.f0.f4, .slice A5 x5 c5, .slice A6 x6 c6]) := by rw [ha]; exact putSel_on (e := (26, 69, .agg #[.int .i64 x.f0.f0, .int .i64 x.f0.f1, .int .i64 x.f0.f2, .int .i64 x.f0.f3, .int .i64 x.f0.f4, .slice A5 x5 c5, .slice A6 x6 c6])) 26 rfl rfl (hon 26 (by kernel_rfl)) rfl
                have e70 : a.tmps[70]? = some (.agg #[.int .i64 y.f0.f0, .int .i64 y.f0.f1, .int .i64 y.f0.f2, .int .i64 y.f0.f3, .int .i64 y.f0.f4, .slice B5 y5 d5, .slice B6 y6 d6]) := by rw [ha]; exact putSel_on (e := (27, 70, .agg #[.int .i64 y.f0.f0, .int .i64 y.f0.f1, .int .i64 y.f0.f2, .int .i64 y.f0.f3, .int .i64 y.f0.f4, .slice B5 y5 d5, .slice B6 y6 d6])) 27 rfl rfl (hon 27 (by kernel_rfl)) rfl
                have e68 : a.tmps[68]? = some (.bool true) := by rw [ha]; exact putSel_on (e := (25, 68, .bool true)) 25 rfl rfl (hon 25 (by kernel_rfl)) rfl
                replace ha := Aside0.mk ha
                have HBr := Aside0.mk Q_HBr
                have FX := Aside0.mk Q_FX
                have FY := Aside0.mk Q_FY
                have SX := Aside0.mk Q_SX
                have SY := Aside0.mk Q_SY
                have FA := Aside0.mk Q_FA
                refine goes_ Tryd.func12 (by kernel_rfl) rfl #[.agg #[.int .i64 x.f0.f0, .int .i64 x.f0.f1, .int .i64 x.f0.f2, .int .i64 x.f0.f3, .int .i64 x.f0.f4, .slice A5 x5 c5, .slice A6 x6 c6], .agg #[.int .i64 y.f0.f0, .int .i64 y.f0.f1, .int .i64 y.f0.f2, .int .i64 y.f0.f3, .int .i64 y.f0.f4, .slice B5 y5 d5, .slice B6 y6 d6]] (wanted_on rfl rfl rfl (e68.trans (by first | rfl | (simp [*]; done)))) rfl rfl (by first | (simp only [List.map_toArray, List.map_cons, List.map_nil, Act.eval, Array.getD_eq_getD_getElem?, Option.getD_some, e69, e70, e68]; done) | (simp only [List.map_toArray, List.map_cons, List.map_nil, Act.eval, Array.getD_eq_getD_getElem?, Option.getD_some, e69, e70, e68]; rfl)) ?_
                refine (same_c SX.out SY.out).mono ?_
                rintro e w1 ⟨hr_, hb1⟩
                rw [HBB.out] at hr_
                subst hr_
                refine ⟨_, rfl, ?_⟩
                refine hK.out _ _ ⟨(by rw [ha.out]; exact putSel_upk 28 hb_ rfl rfl rfl), below_step HBr.out hb1, blk_below hb1 FX.out, blk_below hb1 FY.out, SV_below SX.out hb1, SV_below SY.out hb1, pw_cell_below hb1 FA.out⟩
              refine steps_cons ?_ ?_
              · rintro b a w' ⟨ha, Q_HBr, Q_FX, Q_FY, Q_SX, Q_SY, Q_FA⟩ hb_ hon hoff
                refine ⟨_, rfl, fun K hK => ?_⟩
                have e2 : a.tmps[2]? = some (.pointer (some ⟨xb, 0, none⟩)) := by rw [ha]; exact (putSel_off rfl).trans rfl
                have e68 : a.tmps[68]? = some (.bool true) := by rw [ha]; exact putSel_on (e := (25, 68, .bool true)) 25 rfl rfl (hon 25 (by kernel_rfl)) rfl
                replace ha := Aside0.mk ha
                have HBr := Aside0.mk Q_HBr
                have FX := Aside0.mk Q_FX
                have FY := Aside0.mk Q_FY
                have SX := Aside0.mk Q_SX
                have SY := Aside0.mk Q_SY
                have FA := Aside0.mk Q_FA
                have z0_ : w'.cell? ⟨xb, 0, none⟩ = some (.int .i64 x.f0.f0) := (blk_cell (FX.out) 0).trans rfl
                have z1_ : w'.cell? ⟨xb, 1, none⟩ = some (.int .i64 x.f0.f1) := (blk_cell (FX.out) 1).trans rfl
                have z2_ : w'.cell? ⟨xb, 2, none⟩ = some (.int .i64 x.f0.f2) := (blk_cell (FX.out) 2).trans rfl
                have z3_ : w'.cell? ⟨xb, 3, none⟩ = some (.int .i64 x.f0.f3) := (blk_cell (FX.out) 3).trans rfl
                have z4_ : w'.cell? ⟨xb, 4, none⟩ = some (.int .i64 x.f0.f4) := (blk_cell (FX.out) 4).trans rfl
                have z5_ : w'.cell? ⟨xb, 5, none⟩ = some (.slice A5 x5 c5) := (blk_cell (FX.out) 5).trans rfl
                have z6_ : w'.cell? ⟨xb, 6, none⟩ = some (.slice A6 x6 c6) := (blk_cell (FX.out) 6).trans rfl
                refine value_ (w1 := w') (v := .agg #[.int .i64 x.f0.f0, .int .i64 x.f0.f1, .int .i64 x.f0.f2, .int .i64 x.f0.f3, .int .i64 x.f0.f4, .slice A5 x5 c5, .slice A6 x6 c6]) (wanted_on rfl rfl rfl (e68.trans (by first | rfl | (simp [*]; done)))) rfl ?_ ?_
                · go_simp
                  (try simp only [i64_w])
                  try rfl
                refine hK.out _ _ ⟨(by rw [ha.out]; exact putSel_upk 29 hb_ rfl rfl rfl), Q_HBr, Q_FX, Q_FY, Q_SX, Q_SY, Q_FA⟩
              refine steps_cons ?_ ?_
              · rintro b a w' ⟨ha, Q_HBr, Q_FX, Q_FY, Q_SX, Q_SY, Q_FA⟩ hb_ hon hoff
                refine ⟨_, rfl, fun K hK => ?_⟩
                have e3 : a.tmps[3]? = some (.pointer (some ⟨yb, 0, none⟩)) := by rw [ha]; exact (putSel_off rfl).trans rfl
                have e68 : a.tmps[68]? = some (.bool true) := by rw [ha]; exact putSel_on (e := (25, 68, .bool true)) 25 rfl rfl (hon 25 (by kernel_rfl)) rfl
                replace ha := Aside0.mk ha
                have HBr := Aside0.mk Q_HBr
                have FX := Aside0.mk Q_FX
                have FY := Aside0.mk Q_FY
                have SX := Aside0.mk Q_SX
                have SY := Aside0.mk Q_SY
                have FA := Aside0.mk Q_FA
                have z0_ : w'.cell? ⟨yb, 0, none⟩ = some (.int .i64 y.f0.f0) := (blk_cell (FY.out) 0).trans rfl
                have z1_ : w'.cell? ⟨yb, 1, none⟩ = some (.int .i64 y.f0.f1) := (blk_cell (FY.out) 1).trans rfl
                have z2_ : w'.cell? ⟨yb, 2, none⟩ = some (.int .i64 y.f0.f2) := (blk_cell (FY.out) 2).trans rfl
                have z3_ : w'.cell? ⟨yb, 3, none⟩ = some (.int .i64 y.f0.f3) := (blk_cell (FY.out) 3).trans rfl
                have z4_ : w'.cell? ⟨yb, 4, none⟩ = some (.int .i64 y.f0.f4) := (blk_cell (FY.out) 4).trans rfl
                have z5_ : w'.cell? ⟨yb, 5, none⟩ = some (.slice B5 y5 d5) := (blk_cell (FY.out) 5).trans rfl
                have z6_ : w'.cell? ⟨yb, 6, none⟩ = some (.slice B6 y6 d6) := (blk_cell (FY.out) 6).trans rfl
                refine value_ (w1 := w') (v := .agg #[.int .i64 y.f0.f0, .int .i64 y.f0.f1, .int .i64 y.f0.f2, .int .i64 y.f0.f3, .int .i64 y.f0.f4, .slice B5 y5 d5, .slice B6 y6 d6]) (wanted_on rfl rfl rfl (e68.trans (by first | rfl | (simp [*]; done)))) rfl ?_ ?_
                · go_simp
                  (try simp only [i64_w])
                  try rfl
                refine hK.out _ _ ⟨(by rw [ha.out]; exact putSel_upk 30 hb_ rfl rfl rfl), Q_HBr, Q_FX, Q_FY, Q_SX, Q_SY, Q_FA⟩
              refine steps_cons ?_ ?_
              · rintro b a w' ⟨ha, Q_HBr, Q_FX, Q_FY, Q_SX, Q_SY, Q_FA⟩ hb_ hon hoff
                refine ⟨_, rfl, fun K hK => ?_⟩
                have e72 : a.tmps[72]? = some (.agg #[.int .i64 x.f0.f0, .int .i64 x.f0.f1, .int .i64 x.f0.f2, .int .i64 x.f0.f3, .int .i64 x.f0.f4, .slice A5 x5 c5, .slice A6 x6 c6]) := by rw [ha]; exact putSel_on (e := (29, 72, .agg #[.int .i64 x.f0.f0, .int .i64 x.f0.f1, .int .i64 x.f0.f2, .int .i64 x.f0.f3, .int .i64 x.f0.f4, .slice A5 x5 c5, .slice A6 x6 c6])) 29 rfl rfl (hon 29 (by kernel_rfl)) rfl
                have e73 : a.tmps[73]? = some (.agg #[.int .i64 y.f0.f0, .int .i64 y.f0.f1, .int .i64 y.f0.f2, .int .i64 y.f0.f3, .int .i64 y.f0.f4, .slice B5 y5 d5, .slice B6 y6 d6]) := by rw [ha]; exact putSel_on (e := (30, 73, .agg #[.int .i64 y.f0.f0, .int .i64 y.f0.f1, .int .i64 y.f0.f2, .int .i64 y.f0.f3, .int .i64 y.f0.f4, .slice B5 y5 d5, .slice B6 y6 d6])) 30 rfl rfl (hon 30 (by kernel_rfl)) rfl
                have e68 : a.tmps[68]? = some (.bool true) := by rw [ha]; exact putSel_on (e := (25, 68, .bool true)) 25 rfl rfl (hon 25 (by kernel_rfl)) rfl
                replace ha := Aside0.mk ha
                have HBr := Aside0.mk Q_HBr
                have FX := Aside0.mk Q_FX
                have FY := Aside0.mk Q_FY
                have SX := Aside0.mk Q_SX
                have SY := Aside0.mk Q_SY
                have FA := Aside0.mk Q_FA
                refine goes_ Tryd.func18 (by kernel_rfl) rfl #[.agg #[.int .i64 x.f0.f0, .int .i64 x.f0.f1, .int .i64 x.f0.f2, .int .i64 x.f0.f3, .int .i64 x.f0.f4, .slice A5 x5 c5, .slice A6 x6 c6], .agg #[.int .i64 y.f0.f0, .int .i64 y.f0.f1, .int .i64 y.f0.f2, .int .i64 y.f0.f3, .int .i64 y.f0.f4, .slice B5 y5 d5, .slice B6 y6 d6]] (wanted_on rfl rfl rfl (e68.trans (by first | rfl | (simp [*]; done)))) rfl rfl (by first | (simp only [List.map_toArray, List.map_cons, List.map_nil, Act.eval, Array.getD_eq_getD_getElem?, Option.getD_some, e72, e73, e68]; done) | (simp only [List.map_toArray, List.map_cons, List.map_nil, Act.eval, Array.getD_eq_getD_getElem?, Option.getD_some, e72, e73, e68]; rfl)) ?_
                refine (rsame_c SX.out SY.out).mono ?_
                rintro e w1 ⟨hr_, hb1⟩
                rw [HBB.out] at hr_
                subst hr_
                refine ⟨_, rfl, ?_⟩
                refine hK.out _ _ ⟨(by rw [ha.out]; exact putSel_upk 31 hb_ rfl rfl rfl), below_step HBr.out hb1, blk_below hb1 FX.out, blk_below hb1 FY.out, SV_below SX.out hb1, SV_below SY.out hb1, pw_cell_below hb1 FA.out⟩
              refine steps_cons ?_ ?_
              · rintro b a w' ⟨ha, Q_HBr, Q_FX, Q_FY, Q_SX, Q_SY, Q_FA⟩ hb_ hon hoff
                refine ⟨_, rfl, fun K hK => ?_⟩
                have e71 : a.tmps[71]? = some (.bool bb) := by rw [ha]; exact putSel_on (e := (28, 71, .bool bb)) 28 rfl rfl (hon 28 (by kernel_rfl)) rfl
                have e74 : a.tmps[74]? = some (.bool bb) := by rw [ha]; exact putSel_on (e := (31, 74, .bool bb)) 31 rfl rfl (hon 31 (by kernel_rfl)) rfl
                have e68 : a.tmps[68]? = some (.bool true) := by rw [ha]; exact putSel_on (e := (25, 68, .bool true)) 25 rfl rfl (hon 25 (by kernel_rfl)) rfl
                replace ha := Aside0.mk ha
                have HBr := Aside0.mk Q_HBr
                have FX := Aside0.mk Q_FX
                have FY := Aside0.mk Q_FY
                have SX := Aside0.mk Q_SX
                have SY := Aside0.mk Q_SY
                have FA := Aside0.mk Q_FA
                refine value_ (w1 := w') (v := .bool true) (wanted_on rfl rfl rfl (e68.trans (by first | rfl | (simp [*]; done)))) rfl ?_ ?_
                · go_simp
                  (try simp only [i64_w])
                  try rfl
                refine hK.out _ _ ⟨(by rw [ha.out]; exact putSel_upk 32 hb_ rfl rfl rfl), Q_HBr, Q_FX, Q_FY, Q_SX, Q_SY, Q_FA⟩
              refine steps_cons ?_ ?_
              · rintro b a w' ⟨ha, Q_HBr, Q_FX, Q_FY, Q_SX, Q_SY, Q_FA⟩ hb_ hon hoff
                refine ⟨_, rfl, fun K hK => ?_⟩
                have e68 : a.tmps[68]? = some (.bool true) := by rw [ha]; exact putSel_on (e := (25, 68, .bool true)) 25 rfl rfl (hon 25 (by kernel_rfl)) rfl
                have e75 : a.tmps[75]? = some (.bool true) := by rw [ha]; exact putSel_on (e := (32, 75, .bool true)) 32 rfl rfl (hon 32 (by kernel_rfl)) rfl
                replace ha := Aside0.mk ha
                have HBr := Aside0.mk Q_HBr
                have FX := Aside0.mk Q_FX
                have FY := Aside0.mk Q_FY
                have SX := Aside0.mk Q_SX
                have SY := Aside0.mk Q_SY
                have FA := Aside0.mk Q_FA
                refine value_ (w1 := w') (v := .bool true) ?cA ?cB ?_ ?_
                case cA => rfl
                case cB => rfl
                · go_simp
                  (try simp only [i64_w])
                  try rfl
                refine hK.out _ _ ⟨(by rw [ha.out]; exact putSel_upk 33 hb_ rfl rfl rfl), Q_HBr, Q_FX, Q_FY, Q_SX, Q_SY, Q_FA⟩
              refine steps_cons ?_ ?_
              · rintro b a w' ⟨ha, Q_HBr, Q_FX, Q_FY, Q_SX, Q_SY, Q_FA⟩ hb_ hon hoff
                refine ⟨_, rfl, fun K hK => ?_⟩
                have e76 : a.tmps[76]? = some (.bool true) := by rw [ha]; exact putSel_on (e := (33, 76, .bool true)) 33 rfl rfl (hon 33 (by kernel_rfl)) rfl
                replace ha := Aside0.mk ha
                have HBr := Aside0.mk Q_HBr
                have FX := Aside0.mk Q_FX
                have FY := Aside0.mk Q_FY
                have SX := Aside0.mk Q_SX
                have SY := Aside0.mk Q_SY
                have FA := Aside0.mk Q_FA
                refine value_ (w1 := w') (v := .bool true) ?cA ?cB ?_ ?_
                case cA => rfl
                case cB => rfl
                · go_simp
                  (try simp only [i64_w])
                  try rfl
                refine hK.out _ _ ⟨(by rw [ha.out]; exact putSel_upk 34 hb_ rfl rfl rfl), Q_HBr, Q_FX, Q_FY, Q_SX, Q_SY, Q_FA⟩
              exact steps_nil
            rintro b a w' hall ⟨ha, Q_HBr, Q_FX, Q_FY, Q_SX, Q_SY, Q_FA⟩
            clear FA FX FY HBr SX SY
            have hb0_ := hall 0 (by kernel_rfl)
            have hb1_ := hall 1 (by kernel_rfl)
            have hb2_ := hall 2 (by kernel_rfl)
            have hb3_ := hall 3 (by kernel_rfl)
            have hb4_ := hall 4 (by kernel_rfl)
            have hb5_ := hall 5 (by kernel_rfl)
            have hb6_ := hall 6 (by kernel_rfl)
            have hb7_ := hall 7 (by kernel_rfl)
            have hb8_ := hall 8 (by kernel_rfl)
            have hb9_ := hall 9 (by kernel_rfl)
            have hb10_ := hall 10 (by kernel_rfl)
            have hb11_ := hall 11 (by kernel_rfl)
            have hb12_ := hall 12 (by kernel_rfl)
            have hb13_ := hall 13 (by kernel_rfl)
            have hb14_ := hall 14 (by kernel_rfl)
            have hb15_ := hall 15 (by kernel_rfl)
            have hb16_ := hall 16 (by kernel_rfl)
            have hb17_ := hall 17 (by kernel_rfl)
            have hb18_ := hall 18 (by kernel_rfl)
            have hb19_ := hall 19 (by kernel_rfl)
            have hb20_ := hall 20 (by kernel_rfl)
            have hb21_ := hall 21 (by kernel_rfl)
            have hb22_ := hall 22 (by kernel_rfl)
            have hb23_ := hall 23 (by kernel_rfl)
            have hb24_ := hall 24 (by kernel_rfl)
            have hb25_ := hall 25 (by kernel_rfl)
            have hb26_ := hall 26 (by kernel_rfl)
            have hb27_ := hall 27 (by kernel_rfl)
            have hb28_ := hall 28 (by kernel_rfl)
            have hb29_ := hall 29 (by kernel_rfl)
            have hb30_ := hall 30 (by kernel_rfl)
            have hb31_ := hall 31 (by kernel_rfl)
            have hb32_ := hall 32 (by kernel_rfl)
            have hb33_ := hall 33 (by kernel_rfl)
            have hb34_ := hall 34 (by kernel_rfl)
            subst ha
            simp only [putSel, hb0_, hb1_, hb2_, hb3_, hb4_, hb5_, hb6_, hb7_, hb8_, hb9_, hb10_, hb11_, hb12_, hb13_, hb14_, hb15_, hb16_, hb17_, hb18_, hb19_, hb20_, hb21_, hb22_, hb23_, hb24_, hb25_, hb26_, hb27_, hb28_, hb29_, hb30_, hb31_, hb32_, hb33_, hb34_, if_true, Act.put, List.setIfInBounds_toArray, List.set_cons_zero, List.set_cons_succ]
            have HBr := Aside0.mk Q_HBr
            clear Q_HBr
            have FX := Aside0.mk Q_FX
            clear Q_FX
            have FY := Aside0.mk Q_FY
            clear Q_FY
            have SX := Aside0.mk Q_SX
            clear Q_SX
            have SY := Aside0.mk Q_SY
            clear Q_SY
            have FA := Aside0.mk Q_FA
            clear Q_FA
            clear hall hb0_ hb1_ hb2_ hb3_ hb4_ hb5_ hb6_ hb7_ hb8_ hb9_ hb10_ hb11_ hb12_ hb13_ hb14_ hb15_ hb16_ hb17_ hb18_ hb19_ hb20_ hb21_ hb22_ hb23_ hb24_ hb25_ hb26_ hb27_ hb28_ hb29_ hb30_ hb31_ hb32_ hb33_ hb34_
            go_wp2
            go_ret
            exact ⟨rfl, HBr.out⟩
        · have ik4 : (y6 : Int) > 5000 := by omega
          go_wp2
          go_ret
          exact ⟨rfl, HB.out⟩
      · have ik3 : (y5 : Int) > 100 := by omega
        go_wp2
        go_ret
        exact ⟨rfl, HB.out⟩
    · have ik2 : (x6 : Int) > 5000 := by omega
      go_wp2
      go_ret
      exact ⟨rfl, HB.out⟩
  · have ik1 : (x5 : Int) > 100 := by omega
    go_wp2
    go_ret
    exact ⟨rfl, HB.out⟩
end Go.Proofs.YtlcfkdglknkbdaaDoor.Lo
