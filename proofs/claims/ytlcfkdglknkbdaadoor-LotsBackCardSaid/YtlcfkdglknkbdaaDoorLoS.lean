/- lots: LotsBack. (Partly printed by gen_back.py.) -/
import Derived.Test.YtlcfkdglknkbdaaDoorLoQ
namespace Go.Proofs.YtlcfkdglknkbdaaDoor.Lo
open Go.RowKit Go.Proofs.YtlcfkdglknkbdaaDoorW.PrintWords Go.Proofs.YtlcfkdglknkbdaaDoorW.PrintLast Go.Proofs.YtlcfkdglknkbdaaDoorW.PrintMore Go.Proofs.YtlcfkdglknkbdaaDoor.X
set_option linter.unusedVariables false
set_option linter.unusedSimpArgs false
attribute [local go_sem high] eqA37 eqA35 eqA24

theorem str_same {x y : S28} (hx : encB x = true) (hy : encB y = true) : ((encS x).toList == (encS y).toList) = sameB x y := by
  rw [ByteArray.toList_eq, ByteArray.toList_eq]
  cases h : sameB x y
  · refine beq_eq_false_iff_ne.2 (fun e => ?_)
    have he : encS x = encS y := ByteArray.ext (Array.toList_inj.mp e)
    have hxy : x = y := by rw [← dec_back hx, ← dec_back hy, he]
    rw [(sameB_iff x y).2 hxy] at h
    cases h
  · rw [(sameB_iff x y).1 h]
    exact beq_self_eq_true _
def backa.T7 : Bool × List (List Nat × List Nat) := (true, [([], []), ([0], [0]), ([1], [1]), ([2], [2]), ([3, 2], [2, 3]), ([2, 4], [2, 4]), ([5, 2], [5]), ([6], [6]), ([6], [6]), ([7, 8, 6], [6, 7, 8]), ([6], [6]), ([6], [6]), ([10, 11, 6, 6], [6, 10, 11]), ([9, 12, 6], [6, 9, 12]), ([6, 13], [6, 13]), ([14, 12], [14]), ([15], [15]), ([16, 15], [15, 16]), ([17, 15, 15], [15, 17]), ([18], [18]), ([19, 18, 18], [18, 19]), ([18], [18]), ([20, 21, 20, 18], [18, 20, 21]), ([22, 18], [18, 22]), ([18, 23, 15], [15, 18, 23]), ([15, 24], [15, 24])])
def backa.B7 : List Nat := [0, 1, 3, 7, 15, 31, 63, 127, 127, 511, 127, 127, 3199, 8191, 16383, 32767, 65535, 131071, 262143, 524287, 1048575, 524287, 4194303, 8388607, 16777215, 33554431]
theorem backa.tab7 : rtab .any (opsOf Tryd.f6 7) = backa.T7 := by kernel_rfl
theorem backa.bits7 : waitsOk backa.T7.2 backa.B7 = true := by kernel_rfl
def backb.T7 : Bool × List (List Nat × List Nat) := (true, [([], []), ([0], [0]), ([1], [1]), ([2], [2]), ([3, 2], [2, 3]), ([2, 4], [2, 4]), ([5, 2], [5]), ([6], [6]), ([6], [6]), ([7, 8, 6], [6, 7, 8]), ([6], [6]), ([6], [6]), ([10, 11, 6, 6], [6, 10, 11]), ([9, 12, 6], [6, 9, 12]), ([6, 13], [6, 13]), ([14, 12], [14]), ([15], [15]), ([16, 15], [15, 16]), ([17, 15, 15], [15, 17]), ([18], [18]), ([19, 18, 18], [18, 19]), ([18], [18]), ([20, 21, 20, 18], [18, 20, 21]), ([22, 18], [18, 22]), ([18, 23, 15], [15, 18, 23]), ([15, 24], [15, 24])])
def backb.B7 : List Nat := [0, 1, 3, 7, 15, 31, 63, 127, 127, 511, 127, 127, 3199, 8191, 16383, 32767, 65535, 131071, 262143, 524287, 1048575, 524287, 4194303, 8388607, 16777215, 33554431]
theorem backb.tab7 : rtab .any (opsOf Tryd.f6 7) = backb.T7 := by kernel_rfl
theorem backb.bits7 : waitsOk backb.T7.2 backb.B7 = true := by kernel_rfl
def backc.T7 : Bool × List (List Nat × List Nat) := (true, [([], []), ([0], [0]), ([1], [1]), ([2], [2]), ([3, 2], [2, 3]), ([2, 4], [2, 4]), ([5, 2], [5]), ([6], [6]), ([6], [6]), ([7, 8, 6], [6, 7, 8]), ([6], [6]), ([6], [6]), ([10, 11, 6, 6], [6, 10, 11]), ([9, 12, 6], [6, 9, 12]), ([6, 13], [6, 13]), ([14, 12], [14]), ([15], [15]), ([16, 15], [15, 16]), ([17, 15, 15], [15, 17]), ([18], [18]), ([19, 18, 18], [18, 19]), ([18], [18]), ([20, 21, 20, 18], [18, 20, 21]), ([22, 18], [18, 22]), ([18, 23, 15], [15, 18, 23]), ([15, 24], [15, 24])])
def backc.B7 : List Nat := [0, 1, 3, 7, 15, 31, 63, 127, 127, 511, 127, 127, 3199, 8191, 16383, 32767, 65535, 131071, 262143, 524287, 1048575, 524287, 4194303, 8388607, 16777215, 33554431]
theorem backc.tab7 : rtab .any (opsOf Tryd.f6 7) = backc.T7 := by kernel_rfl
theorem backc.bits7 : waitsOk backc.T7.2 backc.B7 = true := by kernel_rfl
def backd.T11 : Bool × List (List Nat × List Nat) := (true, [([], []), ([0], [0]), ([1], [1]), ([2], [2]), ([3, 2, 2], [2, 3]), ([2], [2]), ([4, 5, 4, 2], [2, 4, 5]), ([2, 6], [2, 6]), ([7, 6], [7]), ([8], [8]), ([9, 8], [8, 9]), ([8], [8]), ([11, 8], [8, 11]), ([12, 8], [8, 12]), ([13, 8], [8, 13]), ([14, 8], [8, 14]), ([8], [8]), ([16, 8], [8, 16]), ([17, 8], [8, 17]), ([15, 18, 8], [8, 15, 18]), ([10, 19, 8], [8, 10, 19]), ([8, 20], [8, 20]), ([21, 8, 0, 1, 2, 3, 4, 5, 6, 7, 8, 9, 10, 11, 12, 13, 14, 15, 16, 17, 18, 19, 20, 21], [21])])
def backd.B11 : List Nat := [0, 1, 3, 7, 15, 7, 63, 127, 255, 511, 1023, 511, 2559, 6655, 14847, 31231, 511, 66047, 197119, 522751, 1048575, 2097151, 4194303]
theorem backd.tab11 : rtab .any (opsOf Tryd.f6 11) = backd.T11 := by kernel_rfl
theorem backd.bits11 : waitsOk backd.T11.2 backd.B11 = true := by kernel_rfl
set_option maxHeartbeats 8000000 in
set_option maxRecDepth 100000 in
theorem back_walk {u v : Value} (x y : S28) (s : ByteArray) (aA : Addr) (W : World) (hu : SV W x u) (hv : SV W y v) (hA : W.cell? gArg = some (Sent aA)) :
    Calls Tryd.prog 6 #[u, v, .string s] W fun e w' => e = .returned (.bool true) ∧ Below W.heap.size W w' := by
  obtain ⟨w, hw⟩ : ∃ w, w = W := ⟨_, rfl⟩
  rw [← hw] at hu hv hA ⊢
  clear hw
  have hu' := hu
  have hv' := hv
  obtain ⟨A5, c5, A6, c6, rfl, _, _, _, _⟩ := hu'
  obtain ⟨B5, d5, B6, d6, rfl, _, _, _, _⟩ := hv'
  have h1 := Tryd.underlying24
  have h2 := Tryd.underlying28
  obtain ⟨x5, hn5⟩ : ∃ n, n = x.f1.length := ⟨_, rfl⟩
  obtain ⟨x6, hn6⟩ : ∃ n, n = x.f2.length := ⟨_, rfl⟩
  obtain ⟨y5, hm5⟩ : ∃ n, n = y.f1.length := ⟨_, rfl⟩
  obtain ⟨y6, hm6⟩ : ∃ n, n = y.f2.length := ⟨_, rfl⟩
  rw [← hn5, ← hn6] at hu ⊢
  rw [← hm5, ← hm6] at hv ⊢
  have HN5 := Aside0.mk hn5
  have HN6 := Aside0.mk hn6
  clear hn5 hn6 hm5 hm6
  have hsz : (w.alloc (.cells #[.int .i64 x.f0.f0, .int .i64 x.f0.f1, .int .i64 x.f0.f2, .int .i64 x.f0.f3, .int .i64 x.f0.f4, .slice A5 x5 c5, .slice A6 x6 c6] 28)).heap.size = w.heap.size + 1 := by unfold World.alloc; exact Array.size_push _
  have hY := blk_new (w.alloc (.cells #[.int .i64 x.f0.f0, .int .i64 x.f0.f1, .int .i64 x.f0.f2, .int .i64 x.f0.f3, .int .i64 x.f0.f4, .slice A5 x5 c5, .slice A6 x6 c6] 28)) (.cells #[.int .i64 y.f0.f0, .int .i64 y.f0.f1, .int .i64 y.f0.f2, .int .i64 y.f0.f3, .int .i64 y.f0.f4, .slice B5 y5 d5, .slice B6 y6 d6] 28)
  rw [hsz] at hY
  have hX := blk_below (below_alloc (Below.refl _ _) (.cells #[.int .i64 y.f0.f0, .int .i64 y.f0.f1, .int .i64 y.f0.f2, .int .i64 y.f0.f3, .int .i64 y.f0.f4, .slice B5 y5 d5, .slice B6 y6 d6] 28)) (blk_new w (.cells #[.int .i64 x.f0.f0, .int .i64 x.f0.f1, .int .i64 x.f0.f2, .int .i64 x.f0.f3, .int .i64 x.f0.f4, .slice A5 x5 c5, .slice A6 x6 c6] 28))
  have hb := below_alloc (below_alloc (Below.refl w.heap.size w) (.cells #[.int .i64 x.f0.f0, .int .i64 x.f0.f1, .int .i64 x.f0.f2, .int .i64 x.f0.f3, .int .i64 x.f0.f4, .slice A5 x5 c5, .slice A6 x6 c6] 28)) (.cells #[.int .i64 y.f0.f0, .int .i64 y.f0.f1, .int .i64 y.f0.f2, .int .i64 y.f0.f3, .int .i64 y.f0.f4, .slice B5 y5 d5, .slice B6 y6 d6] 28)
  have SX := Aside0.mk (SV_below hu hb)
  have SY := Aside0.mk (SV_below hv hb)
  have FX := Aside0.mk hX
  have FY := Aside0.mk hY
  have HB := Aside0.mk hb
  have HA := Aside0.mk hA
  clear hsz hY hX hb hu hv hA
  go_enter Tryd.func6, Tryd.ntmps6
  go_wp2_with fail
  refine (awake_c aA _ (pw_cell_below HB.out HA.out)).mono ?_
  rintro e w2 ⟨rfl, hb⟩
  obtain ⟨xb, hxb⟩ : ∃ n, n = w.heap.size := ⟨_, rfl⟩
  obtain ⟨yb, hyb⟩ : ∃ n, n = w.heap.size + 1 := ⟨_, rfl⟩
  rw [← hxb] at FX
  rw [← hyb] at FY
  replace FX := Aside0.mk (blk_below hb FX.out)
  replace FY := Aside0.mk (blk_below hb FY.out)
  replace SX := Aside0.mk (SV_below SX.out hb)
  replace SY := Aside0.mk (SV_below SY.out hb)
  replace HB := Aside0.mk (below_step HB.out hb)
  clear hb
  rw [← hyb, ← hxb]
  clear hxb hyb
  have x0_ := (blk_cell FX.out 0).trans rfl
  have x1_ := (blk_cell FX.out 1).trans rfl
  have x2_ := (blk_cell FX.out 2).trans rfl
  have x3_ := (blk_cell FX.out 3).trans rfl
  have x4_ := (blk_cell FX.out 4).trans rfl
  have x5_ := (blk_cell FX.out 5).trans rfl
  have x6_ := (blk_cell FX.out 6).trans rfl
  have y5_ := (blk_cell FY.out 5).trans rfl
  have y6_ := (blk_cell FY.out 6).trans rfl
  by_cases k1 : x5 ≤ 64
  · have ik1 : ¬ (x5 : Int) > 64 := by omega
    by_cases k2 : x6 ≤ 4096
    · have ik2 : ¬ (x6 : Int) > 4096 := by omega
      by_cases k3 : y5 ≤ 64
      · have ik3 : ¬ (y5 : Int) > 64 := by omega
        by_cases k4 : y6 ≤ 4096
        · have ik4 : ¬ (y6 : Int) > 4096 := by omega
          by_cases hs : s.size ≤ 16384
          · have ihs : ¬ (s.size : Int) > 16384 := by omega
            go_wp2_with fail
            refine (enc_c SX.out aA (pw_cell_below HB.out HA.out)).mono ?_
            rintro e w3 ⟨sx, ex, rfl, hx1, hx2, hb⟩
            replace FX := Aside0.mk (blk_below hb FX.out)
            replace FY := Aside0.mk (blk_below hb FY.out)
            replace SX := Aside0.mk (SV_below SX.out hb)
            replace SY := Aside0.mk (SV_below SY.out hb)
            replace HB := Aside0.mk (below_step HB.out hb)
            clear hb
            clear x0_ x1_ x2_ x3_ x4_ x5_ x6_
            have y0_ := (blk_cell FY.out 0).trans rfl
            have y1_ := (blk_cell FY.out 1).trans rfl
            have y2_ := (blk_cell FY.out 2).trans rfl
            have y3_ := (blk_cell FY.out 3).trans rfl
            have y4_ := (blk_cell FY.out 4).trans rfl
            have y5_ := (blk_cell FY.out 5).trans rfl
            have y6_ := (blk_cell FY.out 6).trans rfl
            go_wp2_with fail
            refine (enc_c SY.out aA (pw_cell_below HB.out HA.out)).mono ?_
            rintro e w4 ⟨sy, ey, rfl, hy1, hy2, hb⟩
            replace FX := Aside0.mk (blk_below hb FX.out)
            replace FY := Aside0.mk (blk_below hb FY.out)
            replace SX := Aside0.mk (SV_below SX.out hb)
            replace SY := Aside0.mk (SV_below SY.out hb)
            replace HB := Aside0.mk (below_step HB.out hb)
            clear hb
            clear y0_ y1_ y2_ y3_ y4_ y5_ y6_
            cases hx : encB x
            · obtain ⟨rfl, gz, pz, rfl, _⟩ := hx2 hx
              clear hx1 hx2 hy1 hy2 hx
              go_wp2
              refine start_ (n := 26) (S := fun w' => True) (ds := []) #[false, false, false, false, false, false, false, false, false, false, false, false, false, false, false, false, false, false, false, false, false, false, false, false, false, false] (by kernel_rfl) rfl rfl trivial (fun hHeld => ?_)
              refine with_tabW backa.tab7 backa.bits7 (fun HT_ HW_ => ?_)
              have HBr := Aside0.mk (below_drew1 HB.out)
              refine inv_at [0, 1, 2, 3, 4, 5, 6, 7, 8, 9, 10, 11, 12, 13, 14, 15, 16, 17, 18, 19, 20, 21, 22, 23, 24, 25] (fun a0_ b a w' => a = putSel a0_ b [(0, 53, .iface 86 (.pointer (some ⟨gz, 0, none⟩))), (1, 54, .bool false), (2, 55, .bool false), (3, 56, undef), (4, 57, undef), (5, 58, .bool false), (6, 59, .bool false), (7, 60, undef), (8, 61, undef), (9, 62, undef), (10, 63, undef), (11, 64, undef), (12, 65, undef), (13, 66, undef), (14, 67, .bool false), (15, 68, .bool false), (16, 69, .iface 86 (.pointer (some ⟨gz, 0, none⟩))), (17, 70, .bool false), (18, 71, .bool false), (19, 72, undef), (20, 73, undef), (21, 74, undef), (22, 75, undef), (23, 76, undef), (24, 77, .bool false), (25, 78, .bool false)] ∧ (Below w.heap.size w w') ∧ (w'.heap[xb]? = some (.cells #[.int .i64 x.f0.f0, .int .i64 x.f0.f1, .int .i64 x.f0.f2, .int .i64 x.f0.f3, .int .i64 x.f0.f4, .slice A5 x5 c5, .slice A6 x6 c6] 28 (0, 0))) ∧ (w'.heap[yb]? = some (.cells #[.int .i64 y.f0.f0, .int .i64 y.f0.f1, .int .i64 y.f0.f2, .int .i64 y.f0.f3, .int .i64 y.f0.f4, .slice B5 y5 d5, .slice B6 y6 d6] 28 (0, 0))) ∧ (SV w' x (.agg #[.int .i64 x.f0.f0, .int .i64 x.f0.f1, .int .i64 x.f0.f2, .int .i64 x.f0.f3, .int .i64 x.f0.f4, .slice A5 x5 c5, .slice A6 x6 c6])) ∧ (SV w' y (.agg #[.int .i64 y.f0.f0, .int .i64 y.f0.f1, .int .i64 y.f0.f2, .int .i64 y.f0.f3, .int .i64 y.f0.f4, .slice B5 y5 d5, .slice B6 y6 d6]))) HT_.out HW_.out (by kernel_rfl) (by kernel_rfl) ?_ ?_ ?_
              · exact ⟨by simp only [putSel, Bool.false_eq_true, if_false], HBr.out, FX.out, FY.out, SV_below SX.out (below_drew (Below.refl _ _)), SV_below SY.out (below_drew (Below.refl _ _))⟩
              · skip
                clear FX FY HBr SX SY
                refine steps_cons ?_ ?_
                · rintro b a w' ⟨ha, Q_HBr, Q_FX, Q_FY, Q_SX, Q_SY⟩ hb_ hon hoff
                  refine ⟨_, rfl, fun K hK => ?_⟩
                  have e8 : a.tmps[8]? = some (.iface 86 (.pointer (some ⟨gz, 0, none⟩))) := by rw [ha]; exact (putSel_off rfl).trans rfl
                  replace ha := Aside0.mk ha
                  have HBr := Aside0.mk Q_HBr
                  have FX := Aside0.mk Q_FX
                  have FY := Aside0.mk Q_FY
                  have SX := Aside0.mk Q_SX
                  have SY := Aside0.mk Q_SY
                  refine value_ (w1 := w') (v := .iface 86 (.pointer (some ⟨gz, 0, none⟩))) ?cA ?cB ?_ ?_
                  case cA => rfl
                  case cB => rfl
                  · go_simp
                    (try simp only [i64_w])
                    try rfl
                  refine hK.out _ _ ⟨(by rw [ha.out]; exact putSel_upk 0 hb_ rfl rfl rfl), Q_HBr, Q_FX, Q_FY, Q_SX, Q_SY⟩
                refine steps_cons ?_ ?_
                · rintro b a w' ⟨ha, Q_HBr, Q_FX, Q_FY, Q_SX, Q_SY⟩ hb_ hon hoff
                  refine ⟨_, rfl, fun K hK => ?_⟩
                  have e53 : a.tmps[53]? = some (.iface 86 (.pointer (some ⟨gz, 0, none⟩))) := by rw [ha]; exact putSel_on (e := (0, 53, .iface 86 (.pointer (some ⟨gz, 0, none⟩)))) 0 rfl rfl (hon 0 (by kernel_rfl)) rfl
                  replace ha := Aside0.mk ha
                  have HBr := Aside0.mk Q_HBr
                  have FX := Aside0.mk Q_FX
                  have FY := Aside0.mk Q_FY
                  have SX := Aside0.mk Q_SX
                  have SY := Aside0.mk Q_SY
                  refine value_ (w1 := w') (v := .bool false) ?cA ?cB ?_ ?_
                  case cA => rfl
                  case cB => rfl
                  · go_simp
                    (try simp only [i64_w])
                    try rfl
                  refine hK.out _ _ ⟨(by rw [ha.out]; exact putSel_upk 1 hb_ rfl rfl rfl), Q_HBr, Q_FX, Q_FY, Q_SX, Q_SY⟩
                refine steps_cons ?_ ?_
                · rintro b a w' ⟨ha, Q_HBr, Q_FX, Q_FY, Q_SX, Q_SY⟩ hb_ hon hoff
                  refine ⟨_, rfl, fun K hK => ?_⟩
                  have e54 : a.tmps[54]? = some (.bool false) := by rw [ha]; exact putSel_on (e := (1, 54, .bool false)) 1 rfl rfl (hon 1 (by kernel_rfl)) rfl
                  replace ha := Aside0.mk ha
                  have HBr := Aside0.mk Q_HBr
                  have FX := Aside0.mk Q_FX
                  have FY := Aside0.mk Q_FY
                  have SX := Aside0.mk Q_SX
                  have SY := Aside0.mk Q_SY
                  refine value_ (w1 := w') (v := .bool false) ?cA ?cB ?_ ?_
                  case cA => rfl
                  case cB => rfl
                  · go_simp
                    (try simp only [i64_w])
                    try rfl
                  refine hK.out _ _ ⟨(by rw [ha.out]; exact putSel_upk 2 hb_ rfl rfl rfl), Q_HBr, Q_FX, Q_FY, Q_SX, Q_SY⟩
                refine steps_cons ?_ ?_
                · rintro b a w' ⟨ha, Q_HBr, Q_FX, Q_FY, Q_SX, Q_SY⟩ hb_ hon hoff
                  refine ⟨_, rfl, fun K hK => ?_⟩
                  have e55 : a.tmps[55]? = some (.bool false) := by rw [ha]; exact putSel_on (e := (2, 55, .bool false)) 2 rfl rfl (hon 2 (by kernel_rfl)) rfl
                  replace ha := Aside0.mk ha
                  have HBr := Aside0.mk Q_HBr
                  have FX := Aside0.mk Q_FX
                  have FY := Aside0.mk Q_FY
                  have SX := Aside0.mk Q_SX
                  have SY := Aside0.mk Q_SY
                  refine off_ (wanted_off rfl rfl rfl (e55.trans (by first | rfl | (simp [*]; done)))) ?_
                  refine hK.out _ _ ⟨(by rw [ha.out]; exact putSel_upk 3 hb_ rfl rfl rfl), Q_HBr, Q_FX, Q_FY, Q_SX, Q_SY⟩
                refine steps_cons ?_ ?_
                · rintro b a w' ⟨ha, Q_HBr, Q_FX, Q_FY, Q_SX, Q_SY⟩ hb_ hon hoff
                  refine ⟨_, rfl, fun K hK => ?_⟩
                  have e55 : a.tmps[55]? = some (.bool false) := by rw [ha]; exact putSel_on (e := (2, 55, .bool false)) 2 rfl rfl (hon 2 (by kernel_rfl)) rfl
                  replace ha := Aside0.mk ha
                  have HBr := Aside0.mk Q_HBr
                  have FX := Aside0.mk Q_FX
                  have FY := Aside0.mk Q_FY
                  have SX := Aside0.mk Q_SX
                  have SY := Aside0.mk Q_SY
                  refine off_ (wanted_off rfl rfl rfl (e55.trans (by first | rfl | (simp [*]; done)))) ?_
                  refine hK.out _ _ ⟨(by rw [ha.out]; exact putSel_upk 4 hb_ rfl rfl rfl), Q_HBr, Q_FX, Q_FY, Q_SX, Q_SY⟩
                refine steps_cons ?_ ?_
                · rintro b a w' ⟨ha, Q_HBr, Q_FX, Q_FY, Q_SX, Q_SY⟩ hb_ hon hoff
                  refine ⟨_, rfl, fun K hK => ?_⟩
                  have e55 : a.tmps[55]? = some (.bool false) := by rw [ha]; exact putSel_on (e := (2, 55, .bool false)) 2 rfl rfl (hon 2 (by kernel_rfl)) rfl
                  have e57 : a.tmps[57]? = some (undef) := by rw [ha]; exact putSel_on (e := (4, 57, undef)) 4 rfl rfl (hon 4 (by kernel_rfl)) rfl
                  replace ha := Aside0.mk ha
                  have HBr := Aside0.mk Q_HBr
                  have FX := Aside0.mk Q_FX
                  have FY := Aside0.mk Q_FY
                  have SX := Aside0.mk Q_SX
                  have SY := Aside0.mk Q_SY
                  refine value_ (w1 := w') (v := .bool false) ?cA ?cB ?_ ?_
                  case cA => rfl
                  case cB => rfl
                  · go_simp
                    (try simp only [i64_w])
                    try rfl
                  refine hK.out _ _ ⟨(by rw [ha.out]; exact putSel_upk 5 hb_ rfl rfl rfl), Q_HBr, Q_FX, Q_FY, Q_SX, Q_SY⟩
                refine steps_cons ?_ ?_
                · rintro b a w' ⟨ha, Q_HBr, Q_FX, Q_FY, Q_SX, Q_SY⟩ hb_ hon hoff
                  refine ⟨_, rfl, fun K hK => ?_⟩
                  have e58 : a.tmps[58]? = some (.bool false) := by rw [ha]; exact putSel_on (e := (5, 58, .bool false)) 5 rfl rfl (hon 5 (by kernel_rfl)) rfl
                  replace ha := Aside0.mk ha
                  have HBr := Aside0.mk Q_HBr
                  have FX := Aside0.mk Q_FX
                  have FY := Aside0.mk Q_FY
                  have SX := Aside0.mk Q_SX
                  have SY := Aside0.mk Q_SY
                  refine value_ (w1 := w') (v := .bool false) ?cA ?cB ?_ ?_
                  case cA => rfl
                  case cB => rfl
                  · go_simp
                    (try simp only [i64_w])
                    try rfl
                  refine hK.out _ _ ⟨(by rw [ha.out]; exact putSel_upk 6 hb_ rfl rfl rfl), Q_HBr, Q_FX, Q_FY, Q_SX, Q_SY⟩
                refine steps_cons ?_ ?_
                · rintro b a w' ⟨ha, Q_HBr, Q_FX, Q_FY, Q_SX, Q_SY⟩ hb_ hon hoff
                  refine ⟨_, rfl, fun K hK => ?_⟩
                  have e59 : a.tmps[59]? = some (.bool false) := by rw [ha]; exact putSel_on (e := (6, 59, .bool false)) 6 rfl rfl (hon 6 (by kernel_rfl)) rfl
                  replace ha := Aside0.mk ha
                  have HBr := Aside0.mk Q_HBr
                  have FX := Aside0.mk Q_FX
                  have FY := Aside0.mk Q_FY
                  have SX := Aside0.mk Q_SX
                  have SY := Aside0.mk Q_SY
                  refine off_ (wanted_off rfl rfl rfl (e59.trans (by first | rfl | (simp [*]; done)))) ?_
                  refine hK.out _ _ ⟨(by rw [ha.out]; exact putSel_upk 7 hb_ rfl rfl rfl), Q_HBr, Q_FX, Q_FY, Q_SX, Q_SY⟩
                refine steps_cons ?_ ?_
                · rintro b a w' ⟨ha, Q_HBr, Q_FX, Q_FY, Q_SX, Q_SY⟩ hb_ hon hoff
                  refine ⟨_, rfl, fun K hK => ?_⟩
                  have e59 : a.tmps[59]? = some (.bool false) := by rw [ha]; exact putSel_on (e := (6, 59, .bool false)) 6 rfl rfl (hon 6 (by kernel_rfl)) rfl
                  replace ha := Aside0.mk ha
                  have HBr := Aside0.mk Q_HBr
                  have FX := Aside0.mk Q_FX
                  have FY := Aside0.mk Q_FY
                  have SX := Aside0.mk Q_SX
                  have SY := Aside0.mk Q_SY
                  refine off_ (wanted_off rfl rfl rfl (e59.trans (by first | rfl | (simp [*]; done)))) ?_
                  refine hK.out _ _ ⟨(by rw [ha.out]; exact putSel_upk 8 hb_ rfl rfl rfl), Q_HBr, Q_FX, Q_FY, Q_SX, Q_SY⟩
                refine steps_cons ?_ ?_
                · rintro b a w' ⟨ha, Q_HBr, Q_FX, Q_FY, Q_SX, Q_SY⟩ hb_ hon hoff
                  refine ⟨_, rfl, fun K hK => ?_⟩
                  have e59 : a.tmps[59]? = some (.bool false) := by rw [ha]; exact putSel_on (e := (6, 59, .bool false)) 6 rfl rfl (hon 6 (by kernel_rfl)) rfl
                  replace ha := Aside0.mk ha
                  have HBr := Aside0.mk Q_HBr
                  have FX := Aside0.mk Q_FX
                  have FY := Aside0.mk Q_FY
                  have SX := Aside0.mk Q_SX
                  have SY := Aside0.mk Q_SY
                  refine off_ (wanted_off rfl rfl rfl (e59.trans (by first | rfl | (simp [*]; done)))) ?_
                  refine hK.out _ _ ⟨(by rw [ha.out]; exact putSel_upk 9 hb_ rfl rfl rfl), Q_HBr, Q_FX, Q_FY, Q_SX, Q_SY⟩
                refine steps_cons ?_ ?_
                · rintro b a w' ⟨ha, Q_HBr, Q_FX, Q_FY, Q_SX, Q_SY⟩ hb_ hon hoff
                  refine ⟨_, rfl, fun K hK => ?_⟩
                  have e59 : a.tmps[59]? = some (.bool false) := by rw [ha]; exact putSel_on (e := (6, 59, .bool false)) 6 rfl rfl (hon 6 (by kernel_rfl)) rfl
                  replace ha := Aside0.mk ha
                  have HBr := Aside0.mk Q_HBr
                  have FX := Aside0.mk Q_FX
                  have FY := Aside0.mk Q_FY
                  have SX := Aside0.mk Q_SX
                  have SY := Aside0.mk Q_SY
                  refine off_ (wanted_off rfl rfl rfl (e59.trans (by first | rfl | (simp [*]; done)))) ?_
                  refine hK.out _ _ ⟨(by rw [ha.out]; exact putSel_upk 10 hb_ rfl rfl rfl), Q_HBr, Q_FX, Q_FY, Q_SX, Q_SY⟩
                refine steps_cons ?_ ?_
                · rintro b a w' ⟨ha, Q_HBr, Q_FX, Q_FY, Q_SX, Q_SY⟩ hb_ hon hoff
                  refine ⟨_, rfl, fun K hK => ?_⟩
                  have e59 : a.tmps[59]? = some (.bool false) := by rw [ha]; exact putSel_on (e := (6, 59, .bool false)) 6 rfl rfl (hon 6 (by kernel_rfl)) rfl
                  replace ha := Aside0.mk ha
                  have HBr := Aside0.mk Q_HBr
                  have FX := Aside0.mk Q_FX
                  have FY := Aside0.mk Q_FY
                  have SX := Aside0.mk Q_SX
                  have SY := Aside0.mk Q_SY
                  refine off_ (wanted_off rfl rfl rfl (e59.trans (by first | rfl | (simp [*]; done)))) ?_
                  refine hK.out _ _ ⟨(by rw [ha.out]; exact putSel_upk 11 hb_ rfl rfl rfl), Q_HBr, Q_FX, Q_FY, Q_SX, Q_SY⟩
                refine steps_cons ?_ ?_
                · rintro b a w' ⟨ha, Q_HBr, Q_FX, Q_FY, Q_SX, Q_SY⟩ hb_ hon hoff
                  refine ⟨_, rfl, fun K hK => ?_⟩
                  have e59 : a.tmps[59]? = some (.bool false) := by rw [ha]; exact putSel_on (e := (6, 59, .bool false)) 6 rfl rfl (hon 6 (by kernel_rfl)) rfl
                  replace ha := Aside0.mk ha
                  have HBr := Aside0.mk Q_HBr
                  have FX := Aside0.mk Q_FX
                  have FY := Aside0.mk Q_FY
                  have SX := Aside0.mk Q_SX
                  have SY := Aside0.mk Q_SY
                  refine off_ (wanted_off rfl rfl rfl (e59.trans (by first | rfl | (simp [*]; done)))) ?_
                  refine hK.out _ _ ⟨(by rw [ha.out]; exact putSel_upk 12 hb_ rfl rfl rfl), Q_HBr, Q_FX, Q_FY, Q_SX, Q_SY⟩
                refine steps_cons ?_ ?_
                · rintro b a w' ⟨ha, Q_HBr, Q_FX, Q_FY, Q_SX, Q_SY⟩ hb_ hon hoff
                  refine ⟨_, rfl, fun K hK => ?_⟩
                  have e59 : a.tmps[59]? = some (.bool false) := by rw [ha]; exact putSel_on (e := (6, 59, .bool false)) 6 rfl rfl (hon 6 (by kernel_rfl)) rfl
                  replace ha := Aside0.mk ha
                  have HBr := Aside0.mk Q_HBr
                  have FX := Aside0.mk Q_FX
                  have FY := Aside0.mk Q_FY
                  have SX := Aside0.mk Q_SX
                  have SY := Aside0.mk Q_SY
                  refine off_ (wanted_off rfl rfl rfl (e59.trans (by first | rfl | (simp [*]; done)))) ?_
                  refine hK.out _ _ ⟨(by rw [ha.out]; exact putSel_upk 13 hb_ rfl rfl rfl), Q_HBr, Q_FX, Q_FY, Q_SX, Q_SY⟩
                refine steps_cons ?_ ?_
                · rintro b a w' ⟨ha, Q_HBr, Q_FX, Q_FY, Q_SX, Q_SY⟩ hb_ hon hoff
                  refine ⟨_, rfl, fun K hK => ?_⟩
                  have e59 : a.tmps[59]? = some (.bool false) := by rw [ha]; exact putSel_on (e := (6, 59, .bool false)) 6 rfl rfl (hon 6 (by kernel_rfl)) rfl
                  have e66 : a.tmps[66]? = some (undef) := by rw [ha]; exact putSel_on (e := (13, 66, undef)) 13 rfl rfl (hon 13 (by kernel_rfl)) rfl
                  replace ha := Aside0.mk ha
                  have HBr := Aside0.mk Q_HBr
                  have FX := Aside0.mk Q_FX
                  have FY := Aside0.mk Q_FY
                  have SX := Aside0.mk Q_SX
                  have SY := Aside0.mk Q_SY
                  refine value_ (w1 := w') (v := .bool false) ?cA ?cB ?_ ?_
                  case cA => rfl
                  case cB => rfl
                  · go_simp
                    (try simp only [i64_w])
                    try rfl
                  refine hK.out _ _ ⟨(by rw [ha.out]; exact putSel_upk 14 hb_ rfl rfl rfl), Q_HBr, Q_FX, Q_FY, Q_SX, Q_SY⟩
                refine steps_cons ?_ ?_
                · rintro b a w' ⟨ha, Q_HBr, Q_FX, Q_FY, Q_SX, Q_SY⟩ hb_ hon hoff
                  refine ⟨_, rfl, fun K hK => ?_⟩
                  have e67 : a.tmps[67]? = some (.bool false) := by rw [ha]; exact putSel_on (e := (14, 67, .bool false)) 14 rfl rfl (hon 14 (by kernel_rfl)) rfl
                  replace ha := Aside0.mk ha
                  have HBr := Aside0.mk Q_HBr
                  have FX := Aside0.mk Q_FX
                  have FY := Aside0.mk Q_FY
                  have SX := Aside0.mk Q_SX
                  have SY := Aside0.mk Q_SY
                  refine value_ (w1 := w') (v := .bool false) ?cA ?cB ?_ ?_
                  case cA => rfl
                  case cB => rfl
                  · go_simp
                    (try simp only [i64_w])
                    try rfl
                  refine hK.out _ _ ⟨(by rw [ha.out]; exact putSel_upk 15 hb_ rfl rfl rfl), Q_HBr, Q_FX, Q_FY, Q_SX, Q_SY⟩
                refine steps_cons ?_ ?_
                · rintro b a w' ⟨ha, Q_HBr, Q_FX, Q_FY, Q_SX, Q_SY⟩ hb_ hon hoff
                  refine ⟨_, rfl, fun K hK => ?_⟩
                  have e8 : a.tmps[8]? = some (.iface 86 (.pointer (some ⟨gz, 0, none⟩))) := by rw [ha]; exact (putSel_off rfl).trans rfl
                  have e68 : a.tmps[68]? = some (.bool false) := by rw [ha]; exact putSel_on (e := (15, 68, .bool false)) 15 rfl rfl (hon 15 (by kernel_rfl)) rfl
                  replace ha := Aside0.mk ha
                  have HBr := Aside0.mk Q_HBr
                  have FX := Aside0.mk Q_FX
                  have FY := Aside0.mk Q_FY
                  have SX := Aside0.mk Q_SX
                  have SY := Aside0.mk Q_SY
                  refine value_ (w1 := w') (v := .iface 86 (.pointer (some ⟨gz, 0, none⟩))) (wanted_on rfl rfl rfl (e68.trans (by first | rfl | (simp [*]; done)))) rfl ?_ ?_
                  · go_simp
                    (try simp only [i64_w])
                    try rfl
                  refine hK.out _ _ ⟨(by rw [ha.out]; exact putSel_upk 16 hb_ rfl rfl rfl), Q_HBr, Q_FX, Q_FY, Q_SX, Q_SY⟩
                refine steps_cons ?_ ?_
                · rintro b a w' ⟨ha, Q_HBr, Q_FX, Q_FY, Q_SX, Q_SY⟩ hb_ hon hoff
                  refine ⟨_, rfl, fun K hK => ?_⟩
                  have e69 : a.tmps[69]? = some (.iface 86 (.pointer (some ⟨gz, 0, none⟩))) := by rw [ha]; exact putSel_on (e := (16, 69, .iface 86 (.pointer (some ⟨gz, 0, none⟩)))) 16 rfl rfl (hon 16 (by kernel_rfl)) rfl
                  have e68 : a.tmps[68]? = some (.bool false) := by rw [ha]; exact putSel_on (e := (15, 68, .bool false)) 15 rfl rfl (hon 15 (by kernel_rfl)) rfl
                  replace ha := Aside0.mk ha
                  have HBr := Aside0.mk Q_HBr
                  have FX := Aside0.mk Q_FX
                  have FY := Aside0.mk Q_FY
                  have SX := Aside0.mk Q_SX
                  have SY := Aside0.mk Q_SY
                  refine value_ (w1 := w') (v := .bool false) (wanted_on rfl rfl rfl (e68.trans (by first | rfl | (simp [*]; done)))) rfl ?_ ?_
                  · go_simp
                    (try simp only [i64_w])
                    try rfl
                  refine hK.out _ _ ⟨(by rw [ha.out]; exact putSel_upk 17 hb_ rfl rfl rfl), Q_HBr, Q_FX, Q_FY, Q_SX, Q_SY⟩
                refine steps_cons ?_ ?_
                · rintro b a w' ⟨ha, Q_HBr, Q_FX, Q_FY, Q_SX, Q_SY⟩ hb_ hon hoff
                  refine ⟨_, rfl, fun K hK => ?_⟩
                  have e70 : a.tmps[70]? = some (.bool false) := by rw [ha]; exact putSel_on (e := (17, 70, .bool false)) 17 rfl rfl (hon 17 (by kernel_rfl)) rfl
                  have e68 : a.tmps[68]? = some (.bool false) := by rw [ha]; exact putSel_on (e := (15, 68, .bool false)) 15 rfl rfl (hon 15 (by kernel_rfl)) rfl
                  replace ha := Aside0.mk ha
                  have HBr := Aside0.mk Q_HBr
                  have FX := Aside0.mk Q_FX
                  have FY := Aside0.mk Q_FY
                  have SX := Aside0.mk Q_SX
                  have SY := Aside0.mk Q_SY
                  refine value_ (w1 := w') (v := .bool false) (wanted_on rfl rfl rfl (e68.trans (by first | rfl | (simp [*]; done)))) rfl ?_ ?_
                  · go_simp
                    (try simp only [i64_w])
                    try rfl
                  refine hK.out _ _ ⟨(by rw [ha.out]; exact putSel_upk 18 hb_ rfl rfl rfl), Q_HBr, Q_FX, Q_FY, Q_SX, Q_SY⟩
                refine steps_cons ?_ ?_
                · rintro b a w' ⟨ha, Q_HBr, Q_FX, Q_FY, Q_SX, Q_SY⟩ hb_ hon hoff
                  refine ⟨_, rfl, fun K hK => ?_⟩
                  have e71 : a.tmps[71]? = some (.bool false) := by rw [ha]; exact putSel_on (e := (18, 71, .bool false)) 18 rfl rfl (hon 18 (by kernel_rfl)) rfl
                  replace ha := Aside0.mk ha
                  have HBr := Aside0.mk Q_HBr
                  have FX := Aside0.mk Q_FX
                  have FY := Aside0.mk Q_FY
                  have SX := Aside0.mk Q_SX
                  have SY := Aside0.mk Q_SY
                  refine off_ (wanted_off rfl rfl rfl (e71.trans (by first | rfl | (simp [*]; done)))) ?_
                  refine hK.out _ _ ⟨(by rw [ha.out]; exact putSel_upk 19 hb_ rfl rfl rfl), Q_HBr, Q_FX, Q_FY, Q_SX, Q_SY⟩
                refine steps_cons ?_ ?_
                · rintro b a w' ⟨ha, Q_HBr, Q_FX, Q_FY, Q_SX, Q_SY⟩ hb_ hon hoff
                  refine ⟨_, rfl, fun K hK => ?_⟩
                  have e71 : a.tmps[71]? = some (.bool false) := by rw [ha]; exact putSel_on (e := (18, 71, .bool false)) 18 rfl rfl (hon 18 (by kernel_rfl)) rfl
                  replace ha := Aside0.mk ha
                  have HBr := Aside0.mk Q_HBr
                  have FX := Aside0.mk Q_FX
                  have FY := Aside0.mk Q_FY
                  have SX := Aside0.mk Q_SX
                  have SY := Aside0.mk Q_SY
                  refine off_ (wanted_off rfl rfl rfl (e71.trans (by first | rfl | (simp [*]; done)))) ?_
                  refine hK.out _ _ ⟨(by rw [ha.out]; exact putSel_upk 20 hb_ rfl rfl rfl), Q_HBr, Q_FX, Q_FY, Q_SX, Q_SY⟩
                refine steps_cons ?_ ?_
                · rintro b a w' ⟨ha, Q_HBr, Q_FX, Q_FY, Q_SX, Q_SY⟩ hb_ hon hoff
                  refine ⟨_, rfl, fun K hK => ?_⟩
                  have e71 : a.tmps[71]? = some (.bool false) := by rw [ha]; exact putSel_on (e := (18, 71, .bool false)) 18 rfl rfl (hon 18 (by kernel_rfl)) rfl
                  replace ha := Aside0.mk ha
                  have HBr := Aside0.mk Q_HBr
                  have FX := Aside0.mk Q_FX
                  have FY := Aside0.mk Q_FY
                  have SX := Aside0.mk Q_SX
                  have SY := Aside0.mk Q_SY
                  refine off_ (wanted_off rfl rfl rfl (e71.trans (by first | rfl | (simp [*]; done)))) ?_
                  refine hK.out _ _ ⟨(by rw [ha.out]; exact putSel_upk 21 hb_ rfl rfl rfl), Q_HBr, Q_FX, Q_FY, Q_SX, Q_SY⟩
                refine steps_cons ?_ ?_
                · rintro b a w' ⟨ha, Q_HBr, Q_FX, Q_FY, Q_SX, Q_SY⟩ hb_ hon hoff
                  refine ⟨_, rfl, fun K hK => ?_⟩
                  have e71 : a.tmps[71]? = some (.bool false) := by rw [ha]; exact putSel_on (e := (18, 71, .bool false)) 18 rfl rfl (hon 18 (by kernel_rfl)) rfl
                  replace ha := Aside0.mk ha
                  have HBr := Aside0.mk Q_HBr
                  have FX := Aside0.mk Q_FX
                  have FY := Aside0.mk Q_FY
                  have SX := Aside0.mk Q_SX
                  have SY := Aside0.mk Q_SY
                  refine off_ (wanted_off rfl rfl rfl (e71.trans (by first | rfl | (simp [*]; done)))) ?_
                  refine hK.out _ _ ⟨(by rw [ha.out]; exact putSel_upk 22 hb_ rfl rfl rfl), Q_HBr, Q_FX, Q_FY, Q_SX, Q_SY⟩
                refine steps_cons ?_ ?_
                · rintro b a w' ⟨ha, Q_HBr, Q_FX, Q_FY, Q_SX, Q_SY⟩ hb_ hon hoff
                  refine ⟨_, rfl, fun K hK => ?_⟩
                  have e71 : a.tmps[71]? = some (.bool false) := by rw [ha]; exact putSel_on (e := (18, 71, .bool false)) 18 rfl rfl (hon 18 (by kernel_rfl)) rfl
                  replace ha := Aside0.mk ha
                  have HBr := Aside0.mk Q_HBr
                  have FX := Aside0.mk Q_FX
                  have FY := Aside0.mk Q_FY
                  have SX := Aside0.mk Q_SX
                  have SY := Aside0.mk Q_SY
                  refine off_ (wanted_off rfl rfl rfl (e71.trans (by first | rfl | (simp [*]; done)))) ?_
                  refine hK.out _ _ ⟨(by rw [ha.out]; exact putSel_upk 23 hb_ rfl rfl rfl), Q_HBr, Q_FX, Q_FY, Q_SX, Q_SY⟩
                refine steps_cons ?_ ?_
                · rintro b a w' ⟨ha, Q_HBr, Q_FX, Q_FY, Q_SX, Q_SY⟩ hb_ hon hoff
                  refine ⟨_, rfl, fun K hK => ?_⟩
                  have e71 : a.tmps[71]? = some (.bool false) := by rw [ha]; exact putSel_on (e := (18, 71, .bool false)) 18 rfl rfl (hon 18 (by kernel_rfl)) rfl
                  have e76 : a.tmps[76]? = some (undef) := by rw [ha]; exact putSel_on (e := (23, 76, undef)) 23 rfl rfl (hon 23 (by kernel_rfl)) rfl
                  have e68 : a.tmps[68]? = some (.bool false) := by rw [ha]; exact putSel_on (e := (15, 68, .bool false)) 15 rfl rfl (hon 15 (by kernel_rfl)) rfl
                  replace ha := Aside0.mk ha
                  have HBr := Aside0.mk Q_HBr
                  have FX := Aside0.mk Q_FX
                  have FY := Aside0.mk Q_FY
                  have SX := Aside0.mk Q_SX
                  have SY := Aside0.mk Q_SY
                  refine value_ (w1 := w') (v := .bool false) (wanted_on rfl rfl rfl (e68.trans (by first | rfl | (simp [*]; done)))) rfl ?_ ?_
                  · go_simp
                    (try simp only [i64_w])
                    try rfl
                  refine hK.out _ _ ⟨(by rw [ha.out]; exact putSel_upk 24 hb_ rfl rfl rfl), Q_HBr, Q_FX, Q_FY, Q_SX, Q_SY⟩
                refine steps_cons ?_ ?_
                · rintro b a w' ⟨ha, Q_HBr, Q_FX, Q_FY, Q_SX, Q_SY⟩ hb_ hon hoff
                  refine ⟨_, rfl, fun K hK => ?_⟩
                  have e68 : a.tmps[68]? = some (.bool false) := by rw [ha]; exact putSel_on (e := (15, 68, .bool false)) 15 rfl rfl (hon 15 (by kernel_rfl)) rfl
                  have e77 : a.tmps[77]? = some (.bool false) := by rw [ha]; exact putSel_on (e := (24, 77, .bool false)) 24 rfl rfl (hon 24 (by kernel_rfl)) rfl
                  replace ha := Aside0.mk ha
                  have HBr := Aside0.mk Q_HBr
                  have FX := Aside0.mk Q_FX
                  have FY := Aside0.mk Q_FY
                  have SX := Aside0.mk Q_SX
                  have SY := Aside0.mk Q_SY
                  refine value_ (w1 := w') (v := .bool false) ?cA ?cB ?_ ?_
                  case cA => rfl
                  case cB => rfl
                  · go_simp
                    (try simp only [i64_w])
                    try rfl
                  refine hK.out _ _ ⟨(by rw [ha.out]; exact putSel_upk 25 hb_ rfl rfl rfl), Q_HBr, Q_FX, Q_FY, Q_SX, Q_SY⟩
                exact steps_nil
              rintro b a w' hall ⟨ha, Q_HBr, Q_FX, Q_FY, Q_SX, Q_SY⟩
              clear FX FY HBr SX SY
              have hb0_ := hall 0 (by kernel_rfl)
              have hb1_ := hall 1 (by kernel_rfl)
              have hb2_ := hall 2 (by kernel_rfl)
              have hb3_ := hall 3 (by kernel_rfl)
              have hb4_ := hall 4 (by kernel_rfl)
              have hb5_ := hall 5 (by kernel_rfl)
              have hb6_ := hall 6 (by kernel_rfl)
              have hb7_ := hall 7 (by kernel_rfl)
              have hb8_ := hall 8 (by kernel_rfl)
              have hb9_ := hall 9 (by kernel_rfl)
              have hb10_ := hall 10 (by kernel_rfl)
              have hb11_ := hall 11 (by kernel_rfl)
              have hb12_ := hall 12 (by kernel_rfl)
              have hb13_ := hall 13 (by kernel_rfl)
              have hb14_ := hall 14 (by kernel_rfl)
              have hb15_ := hall 15 (by kernel_rfl)
              have hb16_ := hall 16 (by kernel_rfl)
              have hb17_ := hall 17 (by kernel_rfl)
              have hb18_ := hall 18 (by kernel_rfl)
              have hb19_ := hall 19 (by kernel_rfl)
              have hb20_ := hall 20 (by kernel_rfl)
              have hb21_ := hall 21 (by kernel_rfl)
              have hb22_ := hall 22 (by kernel_rfl)
              have hb23_ := hall 23 (by kernel_rfl)
              have hb24_ := hall 24 (by kernel_rfl)
              have hb25_ := hall 25 (by kernel_rfl)
              subst ha
              simp only [putSel, hb0_, hb1_, hb2_, hb3_, hb4_, hb5_, hb6_, hb7_, hb8_, hb9_, hb10_, hb11_, hb12_, hb13_, hb14_, hb15_, hb16_, hb17_, hb18_, hb19_, hb20_, hb21_, hb22_, hb23_, hb24_, hb25_, if_true, Act.put, List.setIfInBounds_toArray, List.set_cons_zero, List.set_cons_succ]
              have HBr := Aside0.mk Q_HBr
              clear Q_HBr
              have FX := Aside0.mk Q_FX
              clear Q_FX
              have FY := Aside0.mk Q_FY
              clear Q_FY
              have SX := Aside0.mk Q_SX
              clear Q_SX
              have SY := Aside0.mk Q_SY
              clear Q_SY
              clear hall hb0_ hb1_ hb2_ hb3_ hb4_ hb5_ hb6_ hb7_ hb8_ hb9_ hb10_ hb11_ hb12_ hb13_ hb14_ hb15_ hb16_ hb17_ hb18_ hb19_ hb20_ hb21_ hb22_ hb23_ hb24_ hb25_
              replace HB := HBr
              go_wp2_with fail
              obtain ⟨z, hz⟩ : ∃ z, z = dec s := ⟨_, rfl⟩
              obtain ⟨z5, hz5⟩ : ∃ n, n = z.f1.length := ⟨_, rfl⟩
              obtain ⟨z6, hz6⟩ : ∃ n, n = z.f2.length := ⟨_, rfl⟩
              have hez : encB z = true := by rw [hz]; exact enc_dec s
              have HZZ : Aside0 ((encS z).size ≤ 40000) := Aside0.mk (by rw [encS_size]; have := (good_conf (enc_parts hez).1).2.1; have := (good_conf (enc_parts hez).1).2.2.1; omega)
              have HDZ : Aside0 (z = dec (encS z)) := Aside0.mk (dec_back hez).symm
              have HL5 : Aside0 (z5 ≤ 64) := Aside0.mk (by rw [hz5]; exact (good_conf (enc_parts hez).1).2.1)
              have HL6 : Aside0 (z6 ≤ 4096) := Aside0.mk (by rw [hz6]; exact (good_conf (enc_parts hez).1).2.2.1)
              have HSZ : Aside0 (((encS z).size : Int) = 6 + 4 * (z5 : Int) + (z6 : Int)) := Aside0.mk (by rw [encS_size, ← hz5, ← hz6]; omega)
              have HEZ := Aside0.mk hez
              have HZ5 := Aside0.mk hz5
              have HZ6 := Aside0.mk hz6
              clear hez
              refine (dec_x s (by omega) z hz z5 z6 hz5 hz6 _).mono ?_
              rintro e w5 ⟨E5, h5, E6, h6, rfl, hS, hb⟩
              clear hz hz5 hz6
              have hb1 := below_alloc (Below.refl w5.heap.size w5) (.cells #[.int .i64 z.f0.f0, .int .i64 z.f0.f1, .int .i64 z.f0.f2, .int .i64 z.f0.f3, .int .i64 z.f0.f4, .slice E5 z5 h5, .slice E6 z6 h6] 28)
              have FZ := Aside0.mk (blk_new w5 (.cells #[.int .i64 z.f0.f0, .int .i64 z.f0.f1, .int .i64 z.f0.f2, .int .i64 z.f0.f3, .int .i64 z.f0.f4, .slice E5 z5 h5, .slice E6 z6 h6] 28))
              have SZ := Aside0.mk (SV_below hS hb1)
              replace HB := Aside0.mk (below_step (below_step HB.out hb) hb1)
              clear hb hb1 hS FX FY SX SY
              go_wp2_with fail
              refine (enc_s HEZ.out SZ.out aA (pw_cell_below HB.out HA.out)).mono ?_
              rintro e w6 ⟨rfl, hb⟩
              replace FZ := Aside0.mk (blk_below hb FZ.out)
              replace SZ := Aside0.mk (SV_below SZ.out hb)
              replace HB := Aside0.mk (below_step HB.out hb)
              clear hb
              obtain ⟨zb, hzb⟩ : ∃ n, n = w5.heap.size := ⟨_, rfl⟩
              rw [← hzb] at FZ ⊢
              clear hzb
              go_wp2
              refine start_ (n := 23) (S := fun w' => True) (ds := []) #[false, false, false, false, false, false, false, false, false, false, false, false, false, false, false, false, false, false, false, false, false, false, false] (by kernel_rfl) rfl rfl trivial (fun hHeld => ?_)
              refine with_tabW backd.tab11 backd.bits11 (fun HT_ HW_ => ?_)
              have HBr := Aside0.mk (below_drew1 HB.out)
              refine inv_at [0, 1, 2, 3, 4, 5, 6, 7, 8, 9, 10, 11, 12, 13, 14, 15, 16, 17, 18, 19, 20, 21, 22] (fun a0_ b a w' => ∃ (B5_ : Option Addr) (d5_ : Nat) (B6_ : Option Addr) (d6_ : Nat) (m4_ : Value), a = putSel a0_ b [(0, 86, .nilIface), (1, 87, .bool true), (2, 88, .bool true), (3, 89, .string (encS z)), (4, 90, m4_), (5, 91, .agg #[.int .i64 z.f0.f0, .int .i64 z.f0.f1, .int .i64 z.f0.f2, .int .i64 z.f0.f3, .int .i64 z.f0.f4, .slice E5 z5 h5, .slice E6 z6 h6]), (6, 92, .bool true), (7, 93, .bool true), (8, 94, .bool true), (9, 95, .string (encS z)), (10, 96, .int .i64 (6 + 4 * (z5 : Int) + (z6 : Int))), (11, 97, .pointer (some ⟨zb, 5, none⟩)), (12, 98, .slice E5 z5 h5), (13, 99, .int .i64 (z5 : Int)), (14, 100, .int .i64 (4 * (z5 : Int))), (15, 101, .int .i64 (6 + 4 * (z5 : Int))), (16, 102, .pointer (some ⟨zb, 6, none⟩)), (17, 103, .slice E6 z6 h6), (18, 104, .int .i64 (z6 : Int)), (19, 105, .int .i64 (6 + 4 * (z5 : Int) + (z6 : Int))), (20, 106, .bool true), (21, 107, .bool true), (22, 6, .bool true)] ∧ (Below w.heap.size w w') ∧ (w'.heap[zb]? = some (.cells #[.int .i64 z.f0.f0, .int .i64 z.f0.f1, .int .i64 z.f0.f2, .int .i64 z.f0.f3, .int .i64 z.f0.f4, .slice E5 z5 h5, .slice E6 z6 h6] 28 (0, 0))) ∧ (SV w' z (.agg #[.int .i64 z.f0.f0, .int .i64 z.f0.f1, .int .i64 z.f0.f2, .int .i64 z.f0.f3, .int .i64 z.f0.f4, .slice E5 z5 h5, .slice E6 z6 h6])) ∧ (b 4 = true → SV w' z (.agg #[.int .i64 z.f0.f0, .int .i64 z.f0.f1, .int .i64 z.f0.f2, .int .i64 z.f0.f3, .int .i64 z.f0.f4, .slice B5_ z5 d5_, .slice B6_ z6 d6_])) ∧ (b 4 = true → (m4_ : Value) = .agg #[.int .i64 z.f0.f0, .int .i64 z.f0.f1, .int .i64 z.f0.f2, .int .i64 z.f0.f3, .int .i64 z.f0.f4, .slice B5_ z5 d5_, .slice B6_ z6 d6_])) HT_.out HW_.out (by kernel_rfl) (by kernel_rfl) ?_ ?_ ?_
              · exact ⟨none, 0, none, 0, .bool false, by simp only [putSel, Bool.false_eq_true, if_false], HBr.out, FZ.out, SV_below SZ.out (below_drew (Below.refl _ _)), fun h_ => absurd h_ (by decide), fun h_ => absurd h_ (by decide)⟩
              · skip
                clear FZ HBr SZ
                refine steps_cons ?_ ?_
                · rintro b a w' ⟨B5_, d5_, B6_, d6_, m4_, ha, Q_HBr, Q_FZ, Q_SZ, Q_FD, Q_X4_⟩ hb_ hon hoff
                  refine ⟨_, rfl, fun K hK => ?_⟩
                  have e13 : a.tmps[13]? = some (.nilIface) := by rw [ha]; exact (putSel_off rfl).trans rfl
                  replace ha := Aside0.mk ha
                  have HBr := Aside0.mk Q_HBr
                  have FZ := Aside0.mk Q_FZ
                  have SZ := Aside0.mk Q_SZ
                  refine value_ (w1 := w') (v := .nilIface) ?cA ?cB ?_ ?_
                  case cA => rfl
                  case cB => rfl
                  · go_simp
                    (try simp only [i64_w])
                    (try (unfold wrap64; omega))
                    try rfl
                  refine hK.out _ _ ⟨B5_, d5_, B6_, d6_, m4_, (by rw [ha.out]; exact putSel_upk 0 hb_ rfl rfl rfl), Q_HBr, Q_FZ, Q_SZ, fun h0_ => absurd ((hoff 4 (by kernel_rfl)).symm.trans h0_) (by decide), fun h0_ => absurd ((hoff 4 (by kernel_rfl)).symm.trans h0_) (by decide)⟩
                refine steps_cons ?_ ?_
                · rintro b a w' ⟨B5_, d5_, B6_, d6_, m4_, ha, Q_HBr, Q_FZ, Q_SZ, Q_FD, Q_X4_⟩ hb_ hon hoff
                  refine ⟨_, rfl, fun K hK => ?_⟩
                  have e86 : a.tmps[86]? = some (.nilIface) := by rw [ha]; exact putSel_on (e := (0, 86, .nilIface)) 0 rfl rfl (hon 0 (by kernel_rfl)) rfl
                  replace ha := Aside0.mk ha
                  have HBr := Aside0.mk Q_HBr
                  have FZ := Aside0.mk Q_FZ
                  have SZ := Aside0.mk Q_SZ
                  refine value_ (w1 := w') (v := .bool true) ?cA ?cB ?_ ?_
                  case cA => rfl
                  case cB => rfl
                  · go_simp
                    (try simp only [i64_w])
                    (try (unfold wrap64; omega))
                    try rfl
                  refine hK.out _ _ ⟨B5_, d5_, B6_, d6_, m4_, (by rw [ha.out]; exact putSel_upk 1 hb_ rfl rfl rfl), Q_HBr, Q_FZ, Q_SZ, fun h0_ => absurd ((hoff 4 (by kernel_rfl)).symm.trans h0_) (by decide), fun h0_ => absurd ((hoff 4 (by kernel_rfl)).symm.trans h0_) (by decide)⟩
                refine steps_cons ?_ ?_
                · rintro b a w' ⟨B5_, d5_, B6_, d6_, m4_, ha, Q_HBr, Q_FZ, Q_SZ, Q_FD, Q_X4_⟩ hb_ hon hoff
                  refine ⟨_, rfl, fun K hK => ?_⟩
                  have e87 : a.tmps[87]? = some (.bool true) := by rw [ha]; exact putSel_on (e := (1, 87, .bool true)) 1 rfl rfl (hon 1 (by kernel_rfl)) rfl
                  replace ha := Aside0.mk ha
                  have HBr := Aside0.mk Q_HBr
                  have FZ := Aside0.mk Q_FZ
                  have SZ := Aside0.mk Q_SZ
                  refine value_ (w1 := w') (v := .bool true) ?cA ?cB ?_ ?_
                  case cA => rfl
                  case cB => rfl
                  · go_simp
                    (try simp only [i64_w])
                    (try (unfold wrap64; omega))
                    try rfl
                  refine hK.out _ _ ⟨B5_, d5_, B6_, d6_, m4_, (by rw [ha.out]; exact putSel_upk 2 hb_ rfl rfl rfl), Q_HBr, Q_FZ, Q_SZ, fun h0_ => absurd ((hoff 4 (by kernel_rfl)).symm.trans h0_) (by decide), fun h0_ => absurd ((hoff 4 (by kernel_rfl)).symm.trans h0_) (by decide)⟩
                refine steps_cons ?_ ?_
                · rintro b a w' ⟨B5_, d5_, B6_, d6_, m4_, ha, Q_HBr, Q_FZ, Q_SZ, Q_FD, Q_X4_⟩ hb_ hon hoff
                  refine ⟨_, rfl, fun K hK => ?_⟩
                  have e12 : a.tmps[12]? = some (.string (encS z)) := by rw [ha]; exact (putSel_off rfl).trans rfl
                  have e88 : a.tmps[88]? = some (.bool true) := by rw [ha]; exact putSel_on (e := (2, 88, .bool true)) 2 rfl rfl (hon 2 (by kernel_rfl)) rfl
                  replace ha := Aside0.mk ha
                  have HBr := Aside0.mk Q_HBr
                  have FZ := Aside0.mk Q_FZ
                  have SZ := Aside0.mk Q_SZ
                  refine value_ (w1 := w') (v := .string (encS z)) (wanted_on rfl rfl rfl (e88.trans (by first | rfl | (simp [*]; done)))) rfl ?_ ?_
                  · go_simp
                    (try simp only [i64_w])
                    (try (unfold wrap64; omega))
                    try rfl
                  refine hK.out _ _ ⟨B5_, d5_, B6_, d6_, m4_, (by rw [ha.out]; exact putSel_upk 3 hb_ rfl rfl rfl), Q_HBr, Q_FZ, Q_SZ, fun h0_ => absurd ((hoff 4 (by kernel_rfl)).symm.trans h0_) (by decide), fun h0_ => absurd ((hoff 4 (by kernel_rfl)).symm.trans h0_) (by decide)⟩
                refine steps_cons ?_ ?_
                · rintro b a w' ⟨B5_, d5_, B6_, d6_, m4_, ha, Q_HBr, Q_FZ, Q_SZ, Q_FD, Q_X4_⟩ hb_ hon hoff
                  refine ⟨_, rfl, fun K hK => ?_⟩
                  have e89 : a.tmps[89]? = some (.string (encS z)) := by rw [ha]; exact putSel_on (e := (3, 89, .string (encS z))) 3 rfl rfl (hon 3 (by kernel_rfl)) rfl
                  have e88 : a.tmps[88]? = some (.bool true) := by rw [ha]; exact putSel_on (e := (2, 88, .bool true)) 2 rfl rfl (hon 2 (by kernel_rfl)) rfl
                  replace ha := Aside0.mk ha
                  have HBr := Aside0.mk Q_HBr
                  have FZ := Aside0.mk Q_FZ
                  have SZ := Aside0.mk Q_SZ
                  refine goes_ Tryd.func9 (by kernel_rfl) rfl #[.string (encS z)] (wanted_on rfl rfl rfl (e88.trans (by first | rfl | (simp [*]; done)))) rfl rfl (by first | (simp only [List.map_toArray, List.map_cons, List.map_nil, Act.eval, Array.getD_eq_getD_getElem?, Option.getD_some, e89, e88]; done) | (simp only [List.map_toArray, List.map_cons, List.map_nil, Act.eval, Array.getD_eq_getD_getElem?, Option.getD_some, e89, e88]; rfl)) ?_
                  refine (dec_x (encS z) HZZ.out z HDZ.out z5 z6 HZ5.out HZ6.out w').mono ?_
                  rintro e w1 ⟨b5z_, d5z_, b6z_, d6z_, rfl, hS_, hb1⟩
                  refine ⟨_, rfl, ?_⟩
                  refine hK.out _ _ ⟨b5z_, d5z_, b6z_, d6z_, (.agg #[.int .i64 z.f0.f0, .int .i64 z.f0.f1, .int .i64 z.f0.f2, .int .i64 z.f0.f3, .int .i64 z.f0.f4, .slice b5z_ z5 d5z_, .slice b6z_ z6 d6z_]), (by rw [ha.out]; exact putSel_upk 4 hb_ rfl rfl rfl), below_step HBr.out hb1, blk_below hb1 FZ.out, SV_below SZ.out hb1, fun _ => hS_, fun _ => rfl⟩
                refine steps_cons ?_ ?_
                · rintro b a w' ⟨B5_, d5_, B6_, d6_, m4_, ha, Q_HBr, Q_FZ, Q_SZ, Q_FD, Q_X4_⟩ hb_ hon hoff
                  refine ⟨_, rfl, fun K hK => ?_⟩
                  have e11 : a.tmps[11]? = some (.pointer (some ⟨zb, 0, none⟩)) := by rw [ha]; exact (putSel_off rfl).trans rfl
                  have e88 : a.tmps[88]? = some (.bool true) := by rw [ha]; exact putSel_on (e := (2, 88, .bool true)) 2 rfl rfl (hon 2 (by kernel_rfl)) rfl
                  replace ha := Aside0.mk ha
                  have HBr := Aside0.mk Q_HBr
                  have FZ := Aside0.mk Q_FZ
                  have SZ := Aside0.mk Q_SZ
                  have z0_ : w'.cell? ⟨zb, 0, none⟩ = some (.int .i64 z.f0.f0) := (blk_cell (FZ.out) 0).trans rfl
                  have z1_ : w'.cell? ⟨zb, 1, none⟩ = some (.int .i64 z.f0.f1) := (blk_cell (FZ.out) 1).trans rfl
                  have z2_ : w'.cell? ⟨zb, 2, none⟩ = some (.int .i64 z.f0.f2) := (blk_cell (FZ.out) 2).trans rfl
                  have z3_ : w'.cell? ⟨zb, 3, none⟩ = some (.int .i64 z.f0.f3) := (blk_cell (FZ.out) 3).trans rfl
                  have z4_ : w'.cell? ⟨zb, 4, none⟩ = some (.int .i64 z.f0.f4) := (blk_cell (FZ.out) 4).trans rfl
                  have z5_ : w'.cell? ⟨zb, 5, none⟩ = some (.slice E5 z5 h5) := (blk_cell (FZ.out) 5).trans rfl
                  have z6_ : w'.cell? ⟨zb, 6, none⟩ = some (.slice E6 z6 h6) := (blk_cell (FZ.out) 6).trans rfl
                  refine value_ (w1 := w') (v := .agg #[.int .i64 z.f0.f0, .int .i64 z.f0.f1, .int .i64 z.f0.f2, .int .i64 z.f0.f3, .int .i64 z.f0.f4, .slice E5 z5 h5, .slice E6 z6 h6]) (wanted_on rfl rfl rfl (e88.trans (by first | rfl | (simp [*]; done)))) rfl ?_ ?_
                  · go_simp
                    (try simp only [i64_w])
                    (try (unfold wrap64; omega))
                    try rfl
                  refine hK.out _ _ ⟨B5_, d5_, B6_, d6_, m4_, (by rw [ha.out]; exact putSel_upk 5 hb_ rfl rfl rfl), Q_HBr, Q_FZ, Q_SZ, Q_FD, Q_X4_⟩
                refine steps_cons ?_ ?_
                · rintro b a w' ⟨B5_, d5_, B6_, d6_, m4_, ha, Q_HBr, Q_FZ, Q_SZ, Q_FD, Q_X4_⟩ hb_ hon hoff
                  refine ⟨_, rfl, fun K hK => ?_⟩
                  have e90 : a.tmps[90]? = some (m4_) := by rw [ha]; exact putSel_on (e := (4, 90, m4_)) 4 rfl rfl (hon 4 (by kernel_rfl)) rfl
                  rw [Q_X4_ (hon 4 (by kernel_rfl))] at e90
                  have e91 : a.tmps[91]? = some (.agg #[.int .i64 z.f0.f0, .int .i64 z.f0.f1, .int .i64 z.f0.f2, .int .i64 z.f0.f3, .int .i64 z.f0.f4, .slice E5 z5 h5, .slice E6 z6 h6]) := by rw [ha]; exact putSel_on (e := (5, 91, .agg #[.int .i64 z.f0.f0, .int .i64 z.f0.f1, .int .i64 z.f0.f2, .int .i64 z.f0.f3, .int .i64 z.f0.f4, .slice E5 z5 h5, .slice E6 z6 h6])) 5 rfl rfl (hon 5 (by kernel_rfl)) rfl
                  have e88 : a.tmps[88]? = some (.bool true) := by rw [ha]; exact putSel_on (e := (2, 88, .bool true)) 2 rfl rfl (hon 2 (by kernel_rfl)) rfl
                  replace ha := Aside0.mk ha
                  have HBr := Aside0.mk Q_HBr
                  have FZ := Aside0.mk Q_FZ
                  have SZ := Aside0.mk Q_SZ
                  have FD := Aside0.mk (Q_FD (hon 4 (by kernel_rfl)))
                  refine goes_ Tryd.func12 (by kernel_rfl) rfl #[.agg #[.int .i64 z.f0.f0, .int .i64 z.f0.f1, .int .i64 z.f0.f2, .int .i64 z.f0.f3, .int .i64 z.f0.f4, .slice B5_ z5 d5_, .slice B6_ z6 d6_], .agg #[.int .i64 z.f0.f0, .int .i64 z.f0.f1, .int .i64 z.f0.f2, .int .i64 z.f0.f3, .int .i64 z.f0.f4, .slice E5 z5 h5, .slice E6 z6 h6]] (wanted_on rfl rfl rfl (e88.trans (by first | rfl | (simp [*]; done)))) rfl rfl (by first | (simp only [List.map_toArray, List.map_cons, List.map_nil, Act.eval, Array.getD_eq_getD_getElem?, Option.getD_some, e90, e91, e88]; done) | (simp only [List.map_toArray, List.map_cons, List.map_nil, Act.eval, Array.getD_eq_getD_getElem?, Option.getD_some, e90, e91, e88]; rfl)) ?_
                  refine (same_c FD.out SZ.out).mono ?_
                  rintro e w1 ⟨hr_, hb1⟩
                  rw [sameB_self] at hr_
                  subst hr_
                  refine ⟨_, rfl, ?_⟩
                  refine hK.out _ _ ⟨B5_, d5_, B6_, d6_, m4_, (by rw [ha.out]; exact putSel_upk 6 hb_ rfl rfl rfl), below_step HBr.out hb1, blk_below hb1 FZ.out, SV_below SZ.out hb1, fun _ => SV_below FD.out hb1, Q_X4_⟩
                refine steps_cons ?_ ?_
                · rintro b a w' ⟨B5_, d5_, B6_, d6_, m4_, ha, Q_HBr, Q_FZ, Q_SZ, Q_FD, Q_X4_⟩ hb_ hon hoff
                  refine ⟨_, rfl, fun K hK => ?_⟩
                  have e88 : a.tmps[88]? = some (.bool true) := by rw [ha]; exact putSel_on (e := (2, 88, .bool true)) 2 rfl rfl (hon 2 (by kernel_rfl)) rfl
                  have e92 : a.tmps[92]? = some (.bool true) := by rw [ha]; exact putSel_on (e := (6, 92, .bool true)) 6 rfl rfl (hon 6 (by kernel_rfl)) rfl
                  replace ha := Aside0.mk ha
                  have HBr := Aside0.mk Q_HBr
                  have FZ := Aside0.mk Q_FZ
                  have SZ := Aside0.mk Q_SZ
                  have FD := Aside0.mk (Q_FD (hon 4 (by kernel_rfl)))
                  refine value_ (w1 := w') (v := .bool true) ?cA ?cB ?_ ?_
                  case cA => rfl
                  case cB => rfl
                  · go_simp
                    (try simp only [i64_w])
                    (try (unfold wrap64; omega))
                    try rfl
                  refine hK.out _ _ ⟨B5_, d5_, B6_, d6_, m4_, (by rw [ha.out]; exact putSel_upk 7 hb_ rfl rfl rfl), Q_HBr, Q_FZ, Q_SZ, Q_FD, Q_X4_⟩
                refine steps_cons ?_ ?_
                · rintro b a w' ⟨B5_, d5_, B6_, d6_, m4_, ha, Q_HBr, Q_FZ, Q_SZ, Q_FD, Q_X4_⟩ hb_ hon hoff
                  refine ⟨_, rfl, fun K hK => ?_⟩
                  have e93 : a.tmps[93]? = some (.bool true) := by rw [ha]; exact putSel_on (e := (7, 93, .bool true)) 7 rfl rfl (hon 7 (by kernel_rfl)) rfl
                  replace ha := Aside0.mk ha
                  have HBr := Aside0.mk Q_HBr
                  have FZ := Aside0.mk Q_FZ
                  have SZ := Aside0.mk Q_SZ
                  have FD := Aside0.mk (Q_FD (hon 4 (by kernel_rfl)))
                  refine value_ (w1 := w') (v := .bool true) ?cA ?cB ?_ ?_
                  case cA => rfl
                  case cB => rfl
                  · go_simp
                    (try simp only [i64_w])
                    (try (unfold wrap64; omega))
                    try rfl
                  refine hK.out _ _ ⟨B5_, d5_, B6_, d6_, m4_, (by rw [ha.out]; exact putSel_upk 8 hb_ rfl rfl rfl), Q_HBr, Q_FZ, Q_SZ, Q_FD, Q_X4_⟩
                refine steps_cons ?_ ?_
                · rintro b a w' ⟨B5_, d5_, B6_, d6_, m4_, ha, Q_HBr, Q_FZ, Q_SZ, Q_FD, Q_X4_⟩ hb_ hon hoff
                  refine ⟨_, rfl, fun K hK => ?_⟩
                  have e12 : a.tmps[12]? = some (.string (encS z)) := by rw [ha]; exact (putSel_off rfl).trans rfl
                  have e94 : a.tmps[94]? = some (.bool true) := by rw [ha]; exact putSel_on (e := (8, 94, .bool true)) 8 rfl rfl (hon 8 (by kernel_rfl)) rfl
                  replace ha := Aside0.mk ha
                  have HBr := Aside0.mk Q_HBr
                  have FZ := Aside0.mk Q_FZ
                  have SZ := Aside0.mk Q_SZ
                  have FD := Aside0.mk (Q_FD (hon 4 (by kernel_rfl)))
                  refine value_ (w1 := w') (v := .string (encS z)) (wanted_on rfl rfl rfl (e94.trans (by first | rfl | (simp [*]; done)))) rfl ?_ ?_
                  · go_simp
                    (try simp only [i64_w])
                    (try (unfold wrap64; omega))
                    try rfl
                  refine hK.out _ _ ⟨B5_, d5_, B6_, d6_, m4_, (by rw [ha.out]; exact putSel_upk 9 hb_ rfl rfl rfl), Q_HBr, Q_FZ, Q_SZ, Q_FD, Q_X4_⟩
                refine steps_cons ?_ ?_
                · rintro b a w' ⟨B5_, d5_, B6_, d6_, m4_, ha, Q_HBr, Q_FZ, Q_SZ, Q_FD, Q_X4_⟩ hb_ hon hoff
                  refine ⟨_, rfl, fun K hK => ?_⟩
                  have e95 : a.tmps[95]? = some (.string (encS z)) := by rw [ha]; exact putSel_on (e := (9, 95, .string (encS z))) 9 rfl rfl (hon 9 (by kernel_rfl)) rfl
                  have e94 : a.tmps[94]? = some (.bool true) := by rw [ha]; exact putSel_on (e := (8, 94, .bool true)) 8 rfl rfl (hon 8 (by kernel_rfl)) rfl
                  replace ha := Aside0.mk ha
                  have HBr := Aside0.mk Q_HBr
                  have FZ := Aside0.mk Q_FZ
                  have SZ := Aside0.mk Q_SZ
                  have FD := Aside0.mk (Q_FD (hon 4 (by kernel_rfl)))
                  have zb_ := HSZ.out
                  have zc_ := HL5.out
                  have zd_ := HL6.out
                  refine value_ (w1 := w') (v := .int .i64 (6 + 4 * (z5 : Int) + (z6 : Int))) (wanted_on rfl rfl rfl (e94.trans (by first | rfl | (simp [*]; done)))) rfl ?_ ?_
                  · go_simp
                    (try simp only [i64_w])
                    (try (unfold wrap64; omega))
                    try rfl
                  refine hK.out _ _ ⟨B5_, d5_, B6_, d6_, m4_, (by rw [ha.out]; exact putSel_upk 10 hb_ rfl rfl rfl), Q_HBr, Q_FZ, Q_SZ, Q_FD, Q_X4_⟩
                refine steps_cons ?_ ?_
                · rintro b a w' ⟨B5_, d5_, B6_, d6_, m4_, ha, Q_HBr, Q_FZ, Q_SZ, Q_FD, Q_X4_⟩ hb_ hon hoff
                  refine ⟨_, rfl, fun K hK => ?_⟩
                  have e11 : a.tmps[11]? = some (.pointer (some ⟨zb, 0, none⟩)) := by rw [ha]; exact (putSel_off rfl).trans rfl
                  have e94 : a.tmps[94]? = some (.bool true) := by rw [ha]; exact putSel_on (e := (8, 94, .bool true)) 8 rfl rfl (hon 8 (by kernel_rfl)) rfl
                  replace ha := Aside0.mk ha
                  have HBr := Aside0.mk Q_HBr
                  have FZ := Aside0.mk Q_FZ
                  have SZ := Aside0.mk Q_SZ
                  have FD := Aside0.mk (Q_FD (hon 4 (by kernel_rfl)))
                  refine value_ (w1 := w') (v := .pointer (some ⟨zb, 5, none⟩)) (wanted_on rfl rfl rfl (e94.trans (by first | rfl | (simp [*]; done)))) rfl ?_ ?_
                  · go_simp
                    (try simp only [i64_w])
                    (try (unfold wrap64; omega))
                    try rfl
                  refine hK.out _ _ ⟨B5_, d5_, B6_, d6_, m4_, (by rw [ha.out]; exact putSel_upk 11 hb_ rfl rfl rfl), Q_HBr, Q_FZ, Q_SZ, Q_FD, Q_X4_⟩
                refine steps_cons ?_ ?_
                · rintro b a w' ⟨B5_, d5_, B6_, d6_, m4_, ha, Q_HBr, Q_FZ, Q_SZ, Q_FD, Q_X4_⟩ hb_ hon hoff
                  refine ⟨_, rfl, fun K hK => ?_⟩
                  have e97 : a.tmps[97]? = some (.pointer (some ⟨zb, 5, none⟩)) := by rw [ha]; exact putSel_on (e := (11, 97, .pointer (some ⟨zb, 5, none⟩))) 11 rfl rfl (hon 11 (by kernel_rfl)) rfl
                  have e94 : a.tmps[94]? = some (.bool true) := by rw [ha]; exact putSel_on (e := (8, 94, .bool true)) 8 rfl rfl (hon 8 (by kernel_rfl)) rfl
                  replace ha := Aside0.mk ha
                  have HBr := Aside0.mk Q_HBr
                  have FZ := Aside0.mk Q_FZ
                  have SZ := Aside0.mk Q_SZ
                  have FD := Aside0.mk (Q_FD (hon 4 (by kernel_rfl)))
                  have z5_ : w'.cell? ⟨zb, 5, none⟩ = some (.slice E5 z5 h5) := (blk_cell (FZ.out) 5).trans rfl
                  refine value_ (w1 := w') (v := .slice E5 z5 h5) (wanted_on rfl rfl rfl (e94.trans (by first | rfl | (simp [*]; done)))) rfl ?_ ?_
                  · go_simp
                    (try simp only [i64_w])
                    (try (unfold wrap64; omega))
                    try rfl
                  refine hK.out _ _ ⟨B5_, d5_, B6_, d6_, m4_, (by rw [ha.out]; exact putSel_upk 12 hb_ rfl rfl rfl), Q_HBr, Q_FZ, Q_SZ, Q_FD, Q_X4_⟩
                refine steps_cons ?_ ?_
                · rintro b a w' ⟨B5_, d5_, B6_, d6_, m4_, ha, Q_HBr, Q_FZ, Q_SZ, Q_FD, Q_X4_⟩ hb_ hon hoff
                  refine ⟨_, rfl, fun K hK => ?_⟩
                  have e98 : a.tmps[98]? = some (.slice E5 z5 h5) := by rw [ha]; exact putSel_on (e := (12, 98, .slice E5 z5 h5)) 12 rfl rfl (hon 12 (by kernel_rfl)) rfl
                  have e94 : a.tmps[94]? = some (.bool true) := by rw [ha]; exact putSel_on (e := (8, 94, .bool true)) 8 rfl rfl (hon 8 (by kernel_rfl)) rfl
                  replace ha := Aside0.mk ha
                  have HBr := Aside0.mk Q_HBr
                  have FZ := Aside0.mk Q_FZ
                  have SZ := Aside0.mk Q_SZ
                  have FD := Aside0.mk (Q_FD (hon 4 (by kernel_rfl)))
                  refine value_ (w1 := w') (v := .int .i64 (z5 : Int)) (wanted_on rfl rfl rfl (e94.trans (by first | rfl | (simp [*]; done)))) rfl ?_ ?_
                  · go_simp
                    (try simp only [i64_w])
                    (try (unfold wrap64; omega))
                    try rfl
                  refine hK.out _ _ ⟨B5_, d5_, B6_, d6_, m4_, (by rw [ha.out]; exact putSel_upk 13 hb_ rfl rfl rfl), Q_HBr, Q_FZ, Q_SZ, Q_FD, Q_X4_⟩
                refine steps_cons ?_ ?_
                · rintro b a w' ⟨B5_, d5_, B6_, d6_, m4_, ha, Q_HBr, Q_FZ, Q_SZ, Q_FD, Q_X4_⟩ hb_ hon hoff
                  refine ⟨_, rfl, fun K hK => ?_⟩
                  have e99 : a.tmps[99]? = some (.int .i64 (z5 : Int)) := by rw [ha]; exact putSel_on (e := (13, 99, .int .i64 (z5 : Int))) 13 rfl rfl (hon 13 (by kernel_rfl)) rfl
                  have e94 : a.tmps[94]? = some (.bool true) := by rw [ha]; exact putSel_on (e := (8, 94, .bool true)) 8 rfl rfl (hon 8 (by kernel_rfl)) rfl
                  replace ha := Aside0.mk ha
                  have HBr := Aside0.mk Q_HBr
                  have FZ := Aside0.mk Q_FZ
                  have SZ := Aside0.mk Q_SZ
                  have FD := Aside0.mk (Q_FD (hon 4 (by kernel_rfl)))
                  have zb_ := HSZ.out
                  have zc_ := HL5.out
                  have zd_ := HL6.out
                  refine value_ (w1 := w') (v := .int .i64 (4 * (z5 : Int))) (wanted_on rfl rfl rfl (e94.trans (by first | rfl | (simp [*]; done)))) rfl ?_ ?_
                  · go_simp
                    (try simp only [i64_w])
                    (try (unfold wrap64; omega))
                    try rfl
                  refine hK.out _ _ ⟨B5_, d5_, B6_, d6_, m4_, (by rw [ha.out]; exact putSel_upk 14 hb_ rfl rfl rfl), Q_HBr, Q_FZ, Q_SZ, Q_FD, Q_X4_⟩
                refine steps_cons ?_ ?_
                · rintro b a w' ⟨B5_, d5_, B6_, d6_, m4_, ha, Q_HBr, Q_FZ, Q_SZ, Q_FD, Q_X4_⟩ hb_ hon hoff
                  refine ⟨_, rfl, fun K hK => ?_⟩
                  have e100 : a.tmps[100]? = some (.int .i64 (4 * (z5 : Int))) := by rw [ha]; exact putSel_on (e := (14, 100, .int .i64 (4 * (z5 : Int)))) 14 rfl rfl (hon 14 (by kernel_rfl)) rfl
                  have e94 : a.tmps[94]? = some (.bool true) := by rw [ha]; exact putSel_on (e := (8, 94, .bool true)) 8 rfl rfl (hon 8 (by kernel_rfl)) rfl
                  replace ha := Aside0.mk ha
                  have HBr := Aside0.mk Q_HBr
                  have FZ := Aside0.mk Q_FZ
                  have SZ := Aside0.mk Q_SZ
                  have FD := Aside0.mk (Q_FD (hon 4 (by kernel_rfl)))
                  have zb_ := HSZ.out
                  have zc_ := HL5.out
                  have zd_ := HL6.out
                  refine value_ (w1 := w') (v := .int .i64 (6 + 4 * (z5 : Int))) (wanted_on rfl rfl rfl (e94.trans (by first | rfl | (simp [*]; done)))) rfl ?_ ?_
                  · go_simp
                    (try simp only [i64_w])
                    (try (unfold wrap64; omega))
                    try rfl
                  refine hK.out _ _ ⟨B5_, d5_, B6_, d6_, m4_, (by rw [ha.out]; exact putSel_upk 15 hb_ rfl rfl rfl), Q_HBr, Q_FZ, Q_SZ, Q_FD, Q_X4_⟩
                refine steps_cons ?_ ?_
                · rintro b a w' ⟨B5_, d5_, B6_, d6_, m4_, ha, Q_HBr, Q_FZ, Q_SZ, Q_FD, Q_X4_⟩ hb_ hon hoff
                  refine ⟨_, rfl, fun K hK => ?_⟩
                  have e11 : a.tmps[11]? = some (.pointer (some ⟨zb, 0, none⟩)) := by rw [ha]; exact (putSel_off rfl).trans rfl
                  have e94 : a.tmps[94]? = some (.bool true) := by rw [ha]; exact putSel_on (e := (8, 94, .bool true)) 8 rfl rfl (hon 8 (by kernel_rfl)) rfl
                  replace ha := Aside0.mk ha
                  have HBr := Aside0.mk Q_HBr
                  have FZ := Aside0.mk Q_FZ
                  have SZ := Aside0.mk Q_SZ
                  have FD := Aside0.mk (Q_FD (hon 4 (by kernel_rfl)))
                  refine value_ (w1 := w') (v := .pointer (some ⟨zb, 6, none⟩)) (wanted_on rfl rfl rfl (e94.trans (by first | rfl | (simp [*]; done)))) rfl ?_ ?_
                  · go_simp
                    (try simp only [i64_w])
                    (try (unfold wrap64; omega))
                    try rfl
                  refine hK.out _ _ ⟨B5_, d5_, B6_, d6_, m4_, (by rw [ha.out]; exact putSel_upk 16 hb_ rfl rfl rfl), Q_HBr, Q_FZ, Q_SZ, Q_FD, Q_X4_⟩
                refine steps_cons ?_ ?_
                · rintro b a w' ⟨B5_, d5_, B6_, d6_, m4_, ha, Q_HBr, Q_FZ, Q_SZ, Q_FD, Q_X4_⟩ hb_ hon hoff
                  refine ⟨_, rfl, fun K hK => ?_⟩
                  have e102 : a.tmps[102]? = some (.pointer (some ⟨zb, 6, none⟩)) := by rw [ha]; exact putSel_on (e := (16, 102, .pointer (some ⟨zb, 6, none⟩))) 16 rfl rfl (hon 16 (by kernel_rfl)) rfl
                  have e94 : a.tmps[94]? = some (.bool true) := by rw [ha]; exact putSel_on (e := (8, 94, .bool true)) 8 rfl rfl (hon 8 (by kernel_rfl)) rfl
                  replace ha := Aside0.mk ha
                  have HBr := Aside0.mk Q_HBr
                  have FZ := Aside0.mk Q_FZ
                  have SZ := Aside0.mk Q_SZ
                  have FD := Aside0.mk (Q_FD (hon 4 (by kernel_rfl)))
                  have z6_ : w'.cell? ⟨zb, 6, none⟩ = some (.slice E6 z6 h6) := (blk_cell (FZ.out) 6).trans rfl
                  refine value_ (w1 := w') (v := .slice E6 z6 h6) (wanted_on rfl rfl rfl (e94.trans (by first | rfl | (simp [*]; done)))) rfl ?_ ?_
                  · go_simp
                    (try simp only [i64_w])
                    (try (unfold wrap64; omega))
                    try rfl
                  refine hK.out _ _ ⟨B5_, d5_, B6_, d6_, m4_, (by rw [ha.out]; exact putSel_upk 17 hb_ rfl rfl rfl), Q_HBr, Q_FZ, Q_SZ, Q_FD, Q_X4_⟩
                refine steps_cons ?_ ?_
                · rintro b a w' ⟨B5_, d5_, B6_, d6_, m4_, ha, Q_HBr, Q_FZ, Q_SZ, Q_FD, Q_X4_⟩ hb_ hon hoff
                  refine ⟨_, rfl, fun K hK => ?_⟩
                  have e103 : a.tmps[103]? = some (.slice E6 z6 h6) := by rw [ha]; exact putSel_on (e := (17, 103, .slice E6 z6 h6)) 17 rfl rfl (hon 17 (by kernel_rfl)) rfl
                  have e94 : a.tmps[94]? = some (.bool true) := by rw [ha]; exact putSel_on (e := (8, 94, .bool true)) 8 rfl rfl (hon 8 (by kernel_rfl)) rfl
                  replace ha := Aside0.mk ha
                  have HBr := Aside0.mk Q_HBr
                  have FZ := Aside0.mk Q_FZ
                  have SZ := Aside0.mk Q_SZ
                  have FD := Aside0.mk (Q_FD (hon 4 (by kernel_rfl)))
                  refine value_ (w1 := w') (v := .int .i64 (z6 : Int)) (wanted_on rfl rfl rfl (e94.trans (by first | rfl | (simp [*]; done)))) rfl ?_ ?_
                  · go_simp
                    (try simp only [i64_w])
                    (try (unfold wrap64; omega))
                    try rfl
                  refine hK.out _ _ ⟨B5_, d5_, B6_, d6_, m4_, (by rw [ha.out]; exact putSel_upk 18 hb_ rfl rfl rfl), Q_HBr, Q_FZ, Q_SZ, Q_FD, Q_X4_⟩
                refine steps_cons ?_ ?_
                · rintro b a w' ⟨B5_, d5_, B6_, d6_, m4_, ha, Q_HBr, Q_FZ, Q_SZ, Q_FD, Q_X4_⟩ hb_ hon hoff
                  refine ⟨_, rfl, fun K hK => ?_⟩
                  have e101 : a.tmps[101]? = some (.int .i64 (6 + 4 * (z5 : Int))) := by rw [ha]; exact putSel_on (e := (15, 101, .int .i64 (6 + 4 * (z5 : Int)))) 15 rfl rfl (hon 15 (by kernel_rfl)) rfl
                  have e104 : a.tmps[104]? = some (.int .i64 (z6 : Int)) := by rw [ha]; exact putSel_on (e := (18, 104, .int .i64 (z6 : Int))) 18 rfl rfl (hon 18 (by kernel_rfl)) rfl
                  have e94 : a.tmps[94]? = some (.bool true) := by rw [ha]; exact putSel_on (e := (8, 94, .bool true)) 8 rfl rfl (hon 8 (by kernel_rfl)) rfl
                  replace ha := Aside0.mk ha
                  have HBr := Aside0.mk Q_HBr
                  have FZ := Aside0.mk Q_FZ
                  have SZ := Aside0.mk Q_SZ
                  have FD := Aside0.mk (Q_FD (hon 4 (by kernel_rfl)))
                  have zb_ := HSZ.out
                  have zc_ := HL5.out
                  have zd_ := HL6.out
                  refine value_ (w1 := w') (v := .int .i64 (6 + 4 * (z5 : Int) + (z6 : Int))) (wanted_on rfl rfl rfl (e94.trans (by first | rfl | (simp [*]; done)))) rfl ?_ ?_
                  · go_simp
                    (try simp only [i64_w])
                    (try (unfold wrap64; omega))
                    try rfl
                  refine hK.out _ _ ⟨B5_, d5_, B6_, d6_, m4_, (by rw [ha.out]; exact putSel_upk 19 hb_ rfl rfl rfl), Q_HBr, Q_FZ, Q_SZ, Q_FD, Q_X4_⟩
                refine steps_cons ?_ ?_
                · rintro b a w' ⟨B5_, d5_, B6_, d6_, m4_, ha, Q_HBr, Q_FZ, Q_SZ, Q_FD, Q_X4_⟩ hb_ hon hoff
                  refine ⟨_, rfl, fun K hK => ?_⟩
                  have e96 : a.tmps[96]? = some (.int .i64 (6 + 4 * (z5 : Int) + (z6 : Int))) := by rw [ha]; exact putSel_on (e := (10, 96, .int .i64 (6 + 4 * (z5 : Int) + (z6 : Int)))) 10 rfl rfl (hon 10 (by kernel_rfl)) rfl
                  have e105 : a.tmps[105]? = some (.int .i64 (6 + 4 * (z5 : Int) + (z6 : Int))) := by rw [ha]; exact putSel_on (e := (19, 105, .int .i64 (6 + 4 * (z5 : Int) + (z6 : Int)))) 19 rfl rfl (hon 19 (by kernel_rfl)) rfl
                  have e94 : a.tmps[94]? = some (.bool true) := by rw [ha]; exact putSel_on (e := (8, 94, .bool true)) 8 rfl rfl (hon 8 (by kernel_rfl)) rfl
                  replace ha := Aside0.mk ha
                  have HBr := Aside0.mk Q_HBr
                  have FZ := Aside0.mk Q_FZ
                  have SZ := Aside0.mk Q_SZ
                  have FD := Aside0.mk (Q_FD (hon 4 (by kernel_rfl)))
                  have zb_ := HSZ.out
                  have zc_ := HL5.out
                  have zd_ := HL6.out
                  refine value_ (w1 := w') (v := .bool true) (wanted_on rfl rfl rfl (e94.trans (by first | rfl | (simp [*]; done)))) rfl ?_ ?_
                  · go_simp
                    (try simp only [i64_w])
                    (try (unfold wrap64; omega))
                    try rfl
                  refine hK.out _ _ ⟨B5_, d5_, B6_, d6_, m4_, (by rw [ha.out]; exact putSel_upk 20 hb_ rfl rfl rfl), Q_HBr, Q_FZ, Q_SZ, Q_FD, Q_X4_⟩
                refine steps_cons ?_ ?_
                · rintro b a w' ⟨B5_, d5_, B6_, d6_, m4_, ha, Q_HBr, Q_FZ, Q_SZ, Q_FD, Q_X4_⟩ hb_ hon hoff
                  refine ⟨_, rfl, fun K hK => ?_⟩
                  have e94 : a.tmps[94]? = some (.bool true) := by rw [ha]; exact putSel_on (e := (8, 94, .bool true)) 8 rfl rfl (hon 8 (by kernel_rfl)) rfl
                  have e106 : a.tmps[106]? = some (.bool true) := by rw [ha]; exact putSel_on (e := (20, 106, .bool true)) 20 rfl rfl (hon 20 (by kernel_rfl)) rfl
                  replace ha := Aside0.mk ha
                  have HBr := Aside0.mk Q_HBr
                  have FZ := Aside0.mk Q_FZ
                  have SZ := Aside0.mk Q_SZ
                  have FD := Aside0.mk (Q_FD (hon 4 (by kernel_rfl)))
                  refine value_ (w1 := w') (v := .bool true) ?cA ?cB ?_ ?_
                  case cA => rfl
                  case cB => rfl
                  · go_simp
                    (try simp only [i64_w])
                    (try (unfold wrap64; omega))
                    try rfl
                  refine hK.out _ _ ⟨B5_, d5_, B6_, d6_, m4_, (by rw [ha.out]; exact putSel_upk 21 hb_ rfl rfl rfl), Q_HBr, Q_FZ, Q_SZ, Q_FD, Q_X4_⟩
                refine steps_cons ?_ ?_
                · rintro b a w' ⟨B5_, d5_, B6_, d6_, m4_, ha, Q_HBr, Q_FZ, Q_SZ, Q_FD, Q_X4_⟩ hb_ hon hoff
                  refine ⟨_, rfl, fun K hK => ?_⟩
                  have e107 : a.tmps[107]? = some (.bool true) := by rw [ha]; exact putSel_on (e := (21, 107, .bool true)) 21 rfl rfl (hon 21 (by kernel_rfl)) rfl
                  replace ha := Aside0.mk ha
                  have HBr := Aside0.mk Q_HBr
                  have FZ := Aside0.mk Q_FZ
                  have SZ := Aside0.mk Q_SZ
                  have FD := Aside0.mk (Q_FD (hon 4 (by kernel_rfl)))
                  refine value_ (w1 := w') (v := .bool true) ?cA ?cB ?_ ?_
                  case cA => rfl
                  case cB => rfl
                  · go_simp
                    (try simp only [i64_w])
                    (try (unfold wrap64; omega))
                    try rfl
                  refine hK.out _ _ ⟨B5_, d5_, B6_, d6_, m4_, (by rw [ha.out]; exact putSel_upk 22 hb_ rfl rfl rfl), Q_HBr, Q_FZ, Q_SZ, Q_FD, Q_X4_⟩
                exact steps_nil
              rintro b a w' hall ⟨B5_, d5_, B6_, d6_, m4_, ha, Q_HBr, Q_FZ, Q_SZ, Q_FD, Q_X4_⟩
              clear FZ HBr SZ
              have hb0_ := hall 0 (by kernel_rfl)
              have hb1_ := hall 1 (by kernel_rfl)
              have hb2_ := hall 2 (by kernel_rfl)
              have hb3_ := hall 3 (by kernel_rfl)
              have hb4_ := hall 4 (by kernel_rfl)
              have hb5_ := hall 5 (by kernel_rfl)
              have hb6_ := hall 6 (by kernel_rfl)
              have hb7_ := hall 7 (by kernel_rfl)
              have hb8_ := hall 8 (by kernel_rfl)
              have hb9_ := hall 9 (by kernel_rfl)
              have hb10_ := hall 10 (by kernel_rfl)
              have hb11_ := hall 11 (by kernel_rfl)
              have hb12_ := hall 12 (by kernel_rfl)
              have hb13_ := hall 13 (by kernel_rfl)
              have hb14_ := hall 14 (by kernel_rfl)
              have hb15_ := hall 15 (by kernel_rfl)
              have hb16_ := hall 16 (by kernel_rfl)
              have hb17_ := hall 17 (by kernel_rfl)
              have hb18_ := hall 18 (by kernel_rfl)
              have hb19_ := hall 19 (by kernel_rfl)
              have hb20_ := hall 20 (by kernel_rfl)
              have hb21_ := hall 21 (by kernel_rfl)
              have hb22_ := hall 22 (by kernel_rfl)
              subst ha
              obtain rfl := Q_X4_ hb4_
              simp only [putSel, hb0_, hb1_, hb2_, hb3_, hb4_, hb5_, hb6_, hb7_, hb8_, hb9_, hb10_, hb11_, hb12_, hb13_, hb14_, hb15_, hb16_, hb17_, hb18_, hb19_, hb20_, hb21_, hb22_, if_true, Act.put, List.setIfInBounds_toArray, List.set_cons_zero, List.set_cons_succ]
              have HBr := Aside0.mk Q_HBr
              clear Q_HBr
              have FZ := Aside0.mk Q_FZ
              clear Q_FZ
              have SZ := Aside0.mk Q_SZ
              clear Q_SZ
              have FD := Aside0.mk (Q_FD hb4_)
              clear Q_FD
              clear hall hb0_ hb1_ hb2_ hb3_ hb4_ hb5_ hb6_ hb7_ hb8_ hb9_ hb10_ hb11_ hb12_ hb13_ hb14_ hb15_ hb16_ hb17_ hb18_ hb19_ hb20_ hb21_ hb22_
              go_wp2
              go_ret
              exact ⟨rfl, HBr.out⟩
            · cases hy : encB y
              · obtain ⟨rfl, rfl⟩ := hx1 hx
                obtain ⟨rfl, gz, pz, rfl, _⟩ := hy2 hy
                have HEX := Aside0.mk hx
                clear hx1 hx2 hy1 hy2 hx hy
                have HZX : Aside0 ((encS x).size ≤ 40000) := Aside0.mk (by rw [encS_size]; have := (good_conf (enc_parts HEX.out).1).2.1; have := (good_conf (enc_parts HEX.out).1).2.2.1; omega)
                have HDX : Aside0 (x = dec (encS x)) := Aside0.mk (dec_back HEX.out).symm
                rw [show strOfNums (encL x) = encS x from rfl]
                go_wp2
                refine start_ (n := 26) (S := fun w' => True) (ds := []) #[false, false, false, false, false, false, false, false, false, false, false, false, false, false, false, false, false, false, false, false, false, false, false, false, false, false] (by kernel_rfl) rfl rfl trivial (fun hHeld => ?_)
                refine with_tabW backb.tab7 backb.bits7 (fun HT_ HW_ => ?_)
                have HBr := Aside0.mk (below_drew1 HB.out)
                refine inv_at [0, 1, 2, 3, 4, 5, 6, 7, 8, 9, 10, 11, 12, 13, 14, 15, 16, 17, 18, 19, 20, 21, 22, 23, 24, 25] (fun a0_ b a w' => ∃ (B5_ : Option Addr) (d5_ : Nat) (B6_ : Option Addr) (d6_ : Nat) (m20_ : Value), a = putSel a0_ b [(0, 53, .nilIface), (1, 54, .bool true), (2, 55, .bool true), (3, 56, .iface 86 (.pointer (some ⟨gz, 0, none⟩))), (4, 57, .bool false), (5, 58, .bool false), (6, 59, .bool false), (7, 60, undef), (8, 61, undef), (9, 62, undef), (10, 63, undef), (11, 64, undef), (12, 65, undef), (13, 66, undef), (14, 67, .bool false), (15, 68, .bool false), (16, 69, .nilIface), (17, 70, .bool true), (18, 71, .bool true), (19, 72, .string (encS x)), (20, 73, m20_), (21, 74, .agg #[.int .i64 x.f0.f0, .int .i64 x.f0.f1, .int .i64 x.f0.f2, .int .i64 x.f0.f3, .int .i64 x.f0.f4, .slice A5 x5 c5, .slice A6 x6 c6]), (22, 75, .bool true), (23, 76, .bool false), (24, 77, .bool false), (25, 78, .bool false)] ∧ (Below w.heap.size w w') ∧ (w'.heap[xb]? = some (.cells #[.int .i64 x.f0.f0, .int .i64 x.f0.f1, .int .i64 x.f0.f2, .int .i64 x.f0.f3, .int .i64 x.f0.f4, .slice A5 x5 c5, .slice A6 x6 c6] 28 (0, 0))) ∧ (w'.heap[yb]? = some (.cells #[.int .i64 y.f0.f0, .int .i64 y.f0.f1, .int .i64 y.f0.f2, .int .i64 y.f0.f3, .int .i64 y.f0.f4, .slice B5 y5 d5, .slice B6 y6 d6] 28 (0, 0))) ∧ (SV w' x (.agg #[.int .i64 x.f0.f0, .int .i64 x.f0.f1, .int .i64 x.f0.f2, .int .i64 x.f0.f3, .int .i64 x.f0.f4, .slice A5 x5 c5, .slice A6 x6 c6])) ∧ (SV w' y (.agg #[.int .i64 y.f0.f0, .int .i64 y.f0.f1, .int .i64 y.f0.f2, .int .i64 y.f0.f3, .int .i64 y.f0.f4, .slice B5 y5 d5, .slice B6 y6 d6])) ∧ (b 20 = true → SV w' x (.agg #[.int .i64 x.f0.f0, .int .i64 x.f0.f1, .int .i64 x.f0.f2, .int .i64 x.f0.f3, .int .i64 x.f0.f4, .slice B5_ x5 d5_, .slice B6_ x6 d6_])) ∧ (b 20 = true → (m20_ : Value) = .agg #[.int .i64 x.f0.f0, .int .i64 x.f0.f1, .int .i64 x.f0.f2, .int .i64 x.f0.f3, .int .i64 x.f0.f4, .slice B5_ x5 d5_, .slice B6_ x6 d6_])) HT_.out HW_.out (by kernel_rfl) (by kernel_rfl) ?_ ?_ ?_
                · exact ⟨none, 0, none, 0, .bool false, by simp only [putSel, Bool.false_eq_true, if_false], HBr.out, FX.out, FY.out, SV_below SX.out (below_drew (Below.refl _ _)), SV_below SY.out (below_drew (Below.refl _ _)), fun h_ => absurd h_ (by decide), fun h_ => absurd h_ (by decide)⟩
                · skip
                  clear FX FY HBr SX SY
                  refine steps_cons ?_ ?_
                  · rintro b a w' ⟨B5_, d5_, B6_, d6_, m20_, ha, Q_HBr, Q_FX, Q_FY, Q_SX, Q_SY, Q_FD, Q_X20_⟩ hb_ hon hoff
                    refine ⟨_, rfl, fun K hK => ?_⟩
                    have e8 : a.tmps[8]? = some (.nilIface) := by rw [ha]; exact (putSel_off rfl).trans rfl
                    replace ha := Aside0.mk ha
                    have HBr := Aside0.mk Q_HBr
                    have FX := Aside0.mk Q_FX
                    have FY := Aside0.mk Q_FY
                    have SX := Aside0.mk Q_SX
                    have SY := Aside0.mk Q_SY
                    refine value_ (w1 := w') (v := .nilIface) ?cA ?cB ?_ ?_
                    case cA => rfl
                    case cB => rfl
                    · go_simp
                      (try simp only [i64_w])
                      try rfl
                    refine hK.out _ _ ⟨B5_, d5_, B6_, d6_, m20_, (by rw [ha.out]; exact putSel_upk 0 hb_ rfl rfl rfl), Q_HBr, Q_FX, Q_FY, Q_SX, Q_SY, fun h0_ => absurd ((hoff 20 (by kernel_rfl)).symm.trans h0_) (by decide), fun h0_ => absurd ((hoff 20 (by kernel_rfl)).symm.trans h0_) (by decide)⟩
                  refine steps_cons ?_ ?_
                  · rintro b a w' ⟨B5_, d5_, B6_, d6_, m20_, ha, Q_HBr, Q_FX, Q_FY, Q_SX, Q_SY, Q_FD, Q_X20_⟩ hb_ hon hoff
                    refine ⟨_, rfl, fun K hK => ?_⟩
                    have e53 : a.tmps[53]? = some (.nilIface) := by rw [ha]; exact putSel_on (e := (0, 53, .nilIface)) 0 rfl rfl (hon 0 (by kernel_rfl)) rfl
                    replace ha := Aside0.mk ha
                    have HBr := Aside0.mk Q_HBr
                    have FX := Aside0.mk Q_FX
                    have FY := Aside0.mk Q_FY
                    have SX := Aside0.mk Q_SX
                    have SY := Aside0.mk Q_SY
                    refine value_ (w1 := w') (v := .bool true) ?cA ?cB ?_ ?_
                    case cA => rfl
                    case cB => rfl
                    · go_simp
                      (try simp only [i64_w])
                      try rfl
                    refine hK.out _ _ ⟨B5_, d5_, B6_, d6_, m20_, (by rw [ha.out]; exact putSel_upk 1 hb_ rfl rfl rfl), Q_HBr, Q_FX, Q_FY, Q_SX, Q_SY, fun h0_ => absurd ((hoff 20 (by kernel_rfl)).symm.trans h0_) (by decide), fun h0_ => absurd ((hoff 20 (by kernel_rfl)).symm.trans h0_) (by decide)⟩
                  refine steps_cons ?_ ?_
                  · rintro b a w' ⟨B5_, d5_, B6_, d6_, m20_, ha, Q_HBr, Q_FX, Q_FY, Q_SX, Q_SY, Q_FD, Q_X20_⟩ hb_ hon hoff
                    refine ⟨_, rfl, fun K hK => ?_⟩
                    have e54 : a.tmps[54]? = some (.bool true) := by rw [ha]; exact putSel_on (e := (1, 54, .bool true)) 1 rfl rfl (hon 1 (by kernel_rfl)) rfl
                    replace ha := Aside0.mk ha
                    have HBr := Aside0.mk Q_HBr
                    have FX := Aside0.mk Q_FX
                    have FY := Aside0.mk Q_FY
                    have SX := Aside0.mk Q_SX
                    have SY := Aside0.mk Q_SY
                    refine value_ (w1 := w') (v := .bool true) ?cA ?cB ?_ ?_
                    case cA => rfl
                    case cB => rfl
                    · go_simp
                      (try simp only [i64_w])
                      try rfl
                    refine hK.out _ _ ⟨B5_, d5_, B6_, d6_, m20_, (by rw [ha.out]; exact putSel_upk 2 hb_ rfl rfl rfl), Q_HBr, Q_FX, Q_FY, Q_SX, Q_SY, fun h0_ => absurd ((hoff 20 (by kernel_rfl)).symm.trans h0_) (by decide), fun h0_ => absurd ((hoff 20 (by kernel_rfl)).symm.trans h0_) (by decide)⟩
                  refine steps_cons ?_ ?_
                  · rintro b a w' ⟨B5_, d5_, B6_, d6_, m20_, ha, Q_HBr, Q_FX, Q_FY, Q_SX, Q_SY, Q_FD, Q_X20_⟩ hb_ hon hoff
                    refine ⟨_, rfl, fun K hK => ?_⟩
                    have e10 : a.tmps[10]? = some (.iface 86 (.pointer (some ⟨gz, 0, none⟩))) := by rw [ha]; exact (putSel_off rfl).trans rfl
                    have e55 : a.tmps[55]? = some (.bool true) := by rw [ha]; exact putSel_on (e := (2, 55, .bool true)) 2 rfl rfl (hon 2 (by kernel_rfl)) rfl
                    replace ha := Aside0.mk ha
                    have HBr := Aside0.mk Q_HBr
                    have FX := Aside0.mk Q_FX
                    have FY := Aside0.mk Q_FY
                    have SX := Aside0.mk Q_SX
                    have SY := Aside0.mk Q_SY
                    refine value_ (w1 := w') (v := .iface 86 (.pointer (some ⟨gz, 0, none⟩))) (wanted_on rfl rfl rfl (e55.trans (by first | rfl | (simp [*]; done)))) rfl ?_ ?_
                    · go_simp
                      (try simp only [i64_w])
                      try rfl
                    refine hK.out _ _ ⟨B5_, d5_, B6_, d6_, m20_, (by rw [ha.out]; exact putSel_upk 3 hb_ rfl rfl rfl), Q_HBr, Q_FX, Q_FY, Q_SX, Q_SY, fun h0_ => absurd ((hoff 20 (by kernel_rfl)).symm.trans h0_) (by decide), fun h0_ => absurd ((hoff 20 (by kernel_rfl)).symm.trans h0_) (by decide)⟩
                  refine steps_cons ?_ ?_
                  · rintro b a w' ⟨B5_, d5_, B6_, d6_, m20_, ha, Q_HBr, Q_FX, Q_FY, Q_SX, Q_SY, Q_FD, Q_X20_⟩ hb_ hon hoff
                    refine ⟨_, rfl, fun K hK => ?_⟩
                    have e56 : a.tmps[56]? = some (.iface 86 (.pointer (some ⟨gz, 0, none⟩))) := by rw [ha]; exact putSel_on (e := (3, 56, .iface 86 (.pointer (some ⟨gz, 0, none⟩)))) 3 rfl rfl (hon 3 (by kernel_rfl)) rfl
                    have e55 : a.tmps[55]? = some (.bool true) := by rw [ha]; exact putSel_on (e := (2, 55, .bool true)) 2 rfl rfl (hon 2 (by kernel_rfl)) rfl
                    replace ha := Aside0.mk ha
                    have HBr := Aside0.mk Q_HBr
                    have FX := Aside0.mk Q_FX
                    have FY := Aside0.mk Q_FY
                    have SX := Aside0.mk Q_SX
                    have SY := Aside0.mk Q_SY
                    refine value_ (w1 := w') (v := .bool false) (wanted_on rfl rfl rfl (e55.trans (by first | rfl | (simp [*]; done)))) rfl ?_ ?_
                    · go_simp
                      (try simp only [i64_w])
                      try rfl
                    refine hK.out _ _ ⟨B5_, d5_, B6_, d6_, m20_, (by rw [ha.out]; exact putSel_upk 4 hb_ rfl rfl rfl), Q_HBr, Q_FX, Q_FY, Q_SX, Q_SY, fun h0_ => absurd ((hoff 20 (by kernel_rfl)).symm.trans h0_) (by decide), fun h0_ => absurd ((hoff 20 (by kernel_rfl)).symm.trans h0_) (by decide)⟩
                  refine steps_cons ?_ ?_
                  · rintro b a w' ⟨B5_, d5_, B6_, d6_, m20_, ha, Q_HBr, Q_FX, Q_FY, Q_SX, Q_SY, Q_FD, Q_X20_⟩ hb_ hon hoff
                    refine ⟨_, rfl, fun K hK => ?_⟩
                    have e55 : a.tmps[55]? = some (.bool true) := by rw [ha]; exact putSel_on (e := (2, 55, .bool true)) 2 rfl rfl (hon 2 (by kernel_rfl)) rfl
                    have e57 : a.tmps[57]? = some (.bool false) := by rw [ha]; exact putSel_on (e := (4, 57, .bool false)) 4 rfl rfl (hon 4 (by kernel_rfl)) rfl
                    replace ha := Aside0.mk ha
                    have HBr := Aside0.mk Q_HBr
                    have FX := Aside0.mk Q_FX
                    have FY := Aside0.mk Q_FY
                    have SX := Aside0.mk Q_SX
                    have SY := Aside0.mk Q_SY
                    refine value_ (w1 := w') (v := .bool false) ?cA ?cB ?_ ?_
                    case cA => rfl
                    case cB => rfl
                    · go_simp
                      (try simp only [i64_w])
                      try rfl
                    refine hK.out _ _ ⟨B5_, d5_, B6_, d6_, m20_, (by rw [ha.out]; exact putSel_upk 5 hb_ rfl rfl rfl), Q_HBr, Q_FX, Q_FY, Q_SX, Q_SY, fun h0_ => absurd ((hoff 20 (by kernel_rfl)).symm.trans h0_) (by decide), fun h0_ => absurd ((hoff 20 (by kernel_rfl)).symm.trans h0_) (by decide)⟩
                  refine steps_cons ?_ ?_
                  · rintro b a w' ⟨B5_, d5_, B6_, d6_, m20_, ha, Q_HBr, Q_FX, Q_FY, Q_SX, Q_SY, Q_FD, Q_X20_⟩ hb_ hon hoff
                    refine ⟨_, rfl, fun K hK => ?_⟩
                    have e58 : a.tmps[58]? = some (.bool false) := by rw [ha]; exact putSel_on (e := (5, 58, .bool false)) 5 rfl rfl (hon 5 (by kernel_rfl)) rfl
                    replace ha := Aside0.mk ha
                    have HBr := Aside0.mk Q_HBr
                    have FX := Aside0.mk Q_FX
                    have FY := Aside0.mk Q_FY
                    have SX := Aside0.mk Q_SX
                    have SY := Aside0.mk Q_SY
                    refine value_ (w1 := w') (v := .bool false) ?cA ?cB ?_ ?_
                    case cA => rfl
                    case cB => rfl
                    · go_simp
                      (try simp only [i64_w])
                      try rfl
                    refine hK.out _ _ ⟨B5_, d5_, B6_, d6_, m20_, (by rw [ha.out]; exact putSel_upk 6 hb_ rfl rfl rfl), Q_HBr, Q_FX, Q_FY, Q_SX, Q_SY, fun h0_ => absurd ((hoff 20 (by kernel_rfl)).symm.trans h0_) (by decide), fun h0_ => absurd ((hoff 20 (by kernel_rfl)).symm.trans h0_) (by decide)⟩
                  refine steps_cons ?_ ?_
                  · rintro b a w' ⟨B5_, d5_, B6_, d6_, m20_, ha, Q_HBr, Q_FX, Q_FY, Q_SX, Q_SY, Q_FD, Q_X20_⟩ hb_ hon hoff
                    refine ⟨_, rfl, fun K hK => ?_⟩
                    have e59 : a.tmps[59]? = some (.bool false) := by rw [ha]; exact putSel_on (e := (6, 59, .bool false)) 6 rfl rfl (hon 6 (by kernel_rfl)) rfl
                    replace ha := Aside0.mk ha
                    have HBr := Aside0.mk Q_HBr
                    have FX := Aside0.mk Q_FX
                    have FY := Aside0.mk Q_FY
                    have SX := Aside0.mk Q_SX
                    have SY := Aside0.mk Q_SY
                    refine off_ (wanted_off rfl rfl rfl (e59.trans (by first | rfl | (simp [*]; done)))) ?_
                    refine hK.out _ _ ⟨B5_, d5_, B6_, d6_, m20_, (by rw [ha.out]; exact putSel_upk 7 hb_ rfl rfl rfl), Q_HBr, Q_FX, Q_FY, Q_SX, Q_SY, fun h0_ => absurd ((hoff 20 (by kernel_rfl)).symm.trans h0_) (by decide), fun h0_ => absurd ((hoff 20 (by kernel_rfl)).symm.trans h0_) (by decide)⟩
                  refine steps_cons ?_ ?_
                  · rintro b a w' ⟨B5_, d5_, B6_, d6_, m20_, ha, Q_HBr, Q_FX, Q_FY, Q_SX, Q_SY, Q_FD, Q_X20_⟩ hb_ hon hoff
                    refine ⟨_, rfl, fun K hK => ?_⟩
                    have e59 : a.tmps[59]? = some (.bool false) := by rw [ha]; exact putSel_on (e := (6, 59, .bool false)) 6 rfl rfl (hon 6 (by kernel_rfl)) rfl
                    replace ha := Aside0.mk ha
                    have HBr := Aside0.mk Q_HBr
                    have FX := Aside0.mk Q_FX
                    have FY := Aside0.mk Q_FY
                    have SX := Aside0.mk Q_SX
                    have SY := Aside0.mk Q_SY
                    refine off_ (wanted_off rfl rfl rfl (e59.trans (by first | rfl | (simp [*]; done)))) ?_
                    refine hK.out _ _ ⟨B5_, d5_, B6_, d6_, m20_, (by rw [ha.out]; exact putSel_upk 8 hb_ rfl rfl rfl), Q_HBr, Q_FX, Q_FY, Q_SX, Q_SY, fun h0_ => absurd ((hoff 20 (by kernel_rfl)).symm.trans h0_) (by decide), fun h0_ => absurd ((hoff 20 (by kernel_rfl)).symm.trans h0_) (by decide)⟩
                  refine steps_cons ?_ ?_
                  · rintro b a w' ⟨B5_, d5_, B6_, d6_, m20_, ha, Q_HBr, Q_FX, Q_FY, Q_SX, Q_SY, Q_FD, Q_X20_⟩ hb_ hon hoff
                    refine ⟨_, rfl, fun K hK => ?_⟩
                    have e59 : a.tmps[59]? = some (.bool false) := by rw [ha]; exact putSel_on (e := (6, 59, .bool false)) 6 rfl rfl (hon 6 (by kernel_rfl)) rfl
                    replace ha := Aside0.mk ha
                    have HBr := Aside0.mk Q_HBr
                    have FX := Aside0.mk Q_FX
                    have FY := Aside0.mk Q_FY
                    have SX := Aside0.mk Q_SX
                    have SY := Aside0.mk Q_SY
                    refine off_ (wanted_off rfl rfl rfl (e59.trans (by first | rfl | (simp [*]; done)))) ?_
                    refine hK.out _ _ ⟨B5_, d5_, B6_, d6_, m20_, (by rw [ha.out]; exact putSel_upk 9 hb_ rfl rfl rfl), Q_HBr, Q_FX, Q_FY, Q_SX, Q_SY, fun h0_ => absurd ((hoff 20 (by kernel_rfl)).symm.trans h0_) (by decide), fun h0_ => absurd ((hoff 20 (by kernel_rfl)).symm.trans h0_) (by decide)⟩
                  refine steps_cons ?_ ?_
                  · rintro b a w' ⟨B5_, d5_, B6_, d6_, m20_, ha, Q_HBr, Q_FX, Q_FY, Q_SX, Q_SY, Q_FD, Q_X20_⟩ hb_ hon hoff
                    refine ⟨_, rfl, fun K hK => ?_⟩
                    have e59 : a.tmps[59]? = some (.bool false) := by rw [ha]; exact putSel_on (e := (6, 59, .bool false)) 6 rfl rfl (hon 6 (by kernel_rfl)) rfl
                    replace ha := Aside0.mk ha
                    have HBr := Aside0.mk Q_HBr
                    have FX := Aside0.mk Q_FX
                    have FY := Aside0.mk Q_FY
                    have SX := Aside0.mk Q_SX
                    have SY := Aside0.mk Q_SY
                    refine off_ (wanted_off rfl rfl rfl (e59.trans (by first | rfl | (simp [*]; done)))) ?_
                    refine hK.out _ _ ⟨B5_, d5_, B6_, d6_, m20_, (by rw [ha.out]; exact putSel_upk 10 hb_ rfl rfl rfl), Q_HBr, Q_FX, Q_FY, Q_SX, Q_SY, fun h0_ => absurd ((hoff 20 (by kernel_rfl)).symm.trans h0_) (by decide), fun h0_ => absurd ((hoff 20 (by kernel_rfl)).symm.trans h0_) (by decide)⟩
                  refine steps_cons ?_ ?_
                  · rintro b a w' ⟨B5_, d5_, B6_, d6_, m20_, ha, Q_HBr, Q_FX, Q_FY, Q_SX, Q_SY, Q_FD, Q_X20_⟩ hb_ hon hoff
                    refine ⟨_, rfl, fun K hK => ?_⟩
                    have e59 : a.tmps[59]? = some (.bool false) := by rw [ha]; exact putSel_on (e := (6, 59, .bool false)) 6 rfl rfl (hon 6 (by kernel_rfl)) rfl
                    replace ha := Aside0.mk ha
                    have HBr := Aside0.mk Q_HBr
                    have FX := Aside0.mk Q_FX
                    have FY := Aside0.mk Q_FY
                    have SX := Aside0.mk Q_SX
                    have SY := Aside0.mk Q_SY
                    refine off_ (wanted_off rfl rfl rfl (e59.trans (by first | rfl | (simp [*]; done)))) ?_
                    refine hK.out _ _ ⟨B5_, d5_, B6_, d6_, m20_, (by rw [ha.out]; exact putSel_upk 11 hb_ rfl rfl rfl), Q_HBr, Q_FX, Q_FY, Q_SX, Q_SY, fun h0_ => absurd ((hoff 20 (by kernel_rfl)).symm.trans h0_) (by decide), fun h0_ => absurd ((hoff 20 (by kernel_rfl)).symm.trans h0_) (by decide)⟩
                  refine steps_cons ?_ ?_
                  · rintro b a w' ⟨B5_, d5_, B6_, d6_, m20_, ha, Q_HBr, Q_FX, Q_FY, Q_SX, Q_SY, Q_FD, Q_X20_⟩ hb_ hon hoff
                    refine ⟨_, rfl, fun K hK => ?_⟩
                    have e59 : a.tmps[59]? = some (.bool false) := by rw [ha]; exact putSel_on (e := (6, 59, .bool false)) 6 rfl rfl (hon 6 (by kernel_rfl)) rfl
                    replace ha := Aside0.mk ha
                    have HBr := Aside0.mk Q_HBr
                    have FX := Aside0.mk Q_FX
                    have FY := Aside0.mk Q_FY
                    have SX := Aside0.mk Q_SX
                    have SY := Aside0.mk Q_SY
                    refine off_ (wanted_off rfl rfl rfl (e59.trans (by first | rfl | (simp [*]; done)))) ?_
                    refine hK.out _ _ ⟨B5_, d5_, B6_, d6_, m20_, (by rw [ha.out]; exact putSel_upk 12 hb_ rfl rfl rfl), Q_HBr, Q_FX, Q_FY, Q_SX, Q_SY, fun h0_ => absurd ((hoff 20 (by kernel_rfl)).symm.trans h0_) (by decide), fun h0_ => absurd ((hoff 20 (by kernel_rfl)).symm.trans h0_) (by decide)⟩
                  refine steps_cons ?_ ?_
                  · rintro b a w' ⟨B5_, d5_, B6_, d6_, m20_, ha, Q_HBr, Q_FX, Q_FY, Q_SX, Q_SY, Q_FD, Q_X20_⟩ hb_ hon hoff
                    refine ⟨_, rfl, fun K hK => ?_⟩
                    have e59 : a.tmps[59]? = some (.bool false) := by rw [ha]; exact putSel_on (e := (6, 59, .bool false)) 6 rfl rfl (hon 6 (by kernel_rfl)) rfl
                    replace ha := Aside0.mk ha
                    have HBr := Aside0.mk Q_HBr
                    have FX := Aside0.mk Q_FX
                    have FY := Aside0.mk Q_FY
                    have SX := Aside0.mk Q_SX
                    have SY := Aside0.mk Q_SY
                    refine off_ (wanted_off rfl rfl rfl (e59.trans (by first | rfl | (simp [*]; done)))) ?_
                    refine hK.out _ _ ⟨B5_, d5_, B6_, d6_, m20_, (by rw [ha.out]; exact putSel_upk 13 hb_ rfl rfl rfl), Q_HBr, Q_FX, Q_FY, Q_SX, Q_SY, fun h0_ => absurd ((hoff 20 (by kernel_rfl)).symm.trans h0_) (by decide), fun h0_ => absurd ((hoff 20 (by kernel_rfl)).symm.trans h0_) (by decide)⟩
                  refine steps_cons ?_ ?_
                  · rintro b a w' ⟨B5_, d5_, B6_, d6_, m20_, ha, Q_HBr, Q_FX, Q_FY, Q_SX, Q_SY, Q_FD, Q_X20_⟩ hb_ hon hoff
                    refine ⟨_, rfl, fun K hK => ?_⟩
                    have e59 : a.tmps[59]? = some (.bool false) := by rw [ha]; exact putSel_on (e := (6, 59, .bool false)) 6 rfl rfl (hon 6 (by kernel_rfl)) rfl
                    have e66 : a.tmps[66]? = some (undef) := by rw [ha]; exact putSel_on (e := (13, 66, undef)) 13 rfl rfl (hon 13 (by kernel_rfl)) rfl
                    replace ha := Aside0.mk ha
                    have HBr := Aside0.mk Q_HBr
                    have FX := Aside0.mk Q_FX
                    have FY := Aside0.mk Q_FY
                    have SX := Aside0.mk Q_SX
                    have SY := Aside0.mk Q_SY
                    refine value_ (w1 := w') (v := .bool false) ?cA ?cB ?_ ?_
                    case cA => rfl
                    case cB => rfl
                    · go_simp
                      (try simp only [i64_w])
                      try rfl
                    refine hK.out _ _ ⟨B5_, d5_, B6_, d6_, m20_, (by rw [ha.out]; exact putSel_upk 14 hb_ rfl rfl rfl), Q_HBr, Q_FX, Q_FY, Q_SX, Q_SY, fun h0_ => absurd ((hoff 20 (by kernel_rfl)).symm.trans h0_) (by decide), fun h0_ => absurd ((hoff 20 (by kernel_rfl)).symm.trans h0_) (by decide)⟩
                  refine steps_cons ?_ ?_
                  · rintro b a w' ⟨B5_, d5_, B6_, d6_, m20_, ha, Q_HBr, Q_FX, Q_FY, Q_SX, Q_SY, Q_FD, Q_X20_⟩ hb_ hon hoff
                    refine ⟨_, rfl, fun K hK => ?_⟩
                    have e67 : a.tmps[67]? = some (.bool false) := by rw [ha]; exact putSel_on (e := (14, 67, .bool false)) 14 rfl rfl (hon 14 (by kernel_rfl)) rfl
                    replace ha := Aside0.mk ha
                    have HBr := Aside0.mk Q_HBr
                    have FX := Aside0.mk Q_FX
                    have FY := Aside0.mk Q_FY
                    have SX := Aside0.mk Q_SX
                    have SY := Aside0.mk Q_SY
                    refine value_ (w1 := w') (v := .bool false) ?cA ?cB ?_ ?_
                    case cA => rfl
                    case cB => rfl
                    · go_simp
                      (try simp only [i64_w])
                      try rfl
                    refine hK.out _ _ ⟨B5_, d5_, B6_, d6_, m20_, (by rw [ha.out]; exact putSel_upk 15 hb_ rfl rfl rfl), Q_HBr, Q_FX, Q_FY, Q_SX, Q_SY, fun h0_ => absurd ((hoff 20 (by kernel_rfl)).symm.trans h0_) (by decide), fun h0_ => absurd ((hoff 20 (by kernel_rfl)).symm.trans h0_) (by decide)⟩
                  refine steps_cons ?_ ?_
                  · rintro b a w' ⟨B5_, d5_, B6_, d6_, m20_, ha, Q_HBr, Q_FX, Q_FY, Q_SX, Q_SY, Q_FD, Q_X20_⟩ hb_ hon hoff
                    refine ⟨_, rfl, fun K hK => ?_⟩
                    have e8 : a.tmps[8]? = some (.nilIface) := by rw [ha]; exact (putSel_off rfl).trans rfl
                    have e68 : a.tmps[68]? = some (.bool false) := by rw [ha]; exact putSel_on (e := (15, 68, .bool false)) 15 rfl rfl (hon 15 (by kernel_rfl)) rfl
                    replace ha := Aside0.mk ha
                    have HBr := Aside0.mk Q_HBr
                    have FX := Aside0.mk Q_FX
                    have FY := Aside0.mk Q_FY
                    have SX := Aside0.mk Q_SX
                    have SY := Aside0.mk Q_SY
                    refine value_ (w1 := w') (v := .nilIface) (wanted_on rfl rfl rfl (e68.trans (by first | rfl | (simp [*]; done)))) rfl ?_ ?_
                    · go_simp
                      (try simp only [i64_w])
                      try rfl
                    refine hK.out _ _ ⟨B5_, d5_, B6_, d6_, m20_, (by rw [ha.out]; exact putSel_upk 16 hb_ rfl rfl rfl), Q_HBr, Q_FX, Q_FY, Q_SX, Q_SY, fun h0_ => absurd ((hoff 20 (by kernel_rfl)).symm.trans h0_) (by decide), fun h0_ => absurd ((hoff 20 (by kernel_rfl)).symm.trans h0_) (by decide)⟩
                  refine steps_cons ?_ ?_
                  · rintro b a w' ⟨B5_, d5_, B6_, d6_, m20_, ha, Q_HBr, Q_FX, Q_FY, Q_SX, Q_SY, Q_FD, Q_X20_⟩ hb_ hon hoff
                    refine ⟨_, rfl, fun K hK => ?_⟩
                    have e69 : a.tmps[69]? = some (.nilIface) := by rw [ha]; exact putSel_on (e := (16, 69, .nilIface)) 16 rfl rfl (hon 16 (by kernel_rfl)) rfl
                    have e68 : a.tmps[68]? = some (.bool false) := by rw [ha]; exact putSel_on (e := (15, 68, .bool false)) 15 rfl rfl (hon 15 (by kernel_rfl)) rfl
                    replace ha := Aside0.mk ha
                    have HBr := Aside0.mk Q_HBr
                    have FX := Aside0.mk Q_FX
                    have FY := Aside0.mk Q_FY
                    have SX := Aside0.mk Q_SX
                    have SY := Aside0.mk Q_SY
                    refine value_ (w1 := w') (v := .bool true) (wanted_on rfl rfl rfl (e68.trans (by first | rfl | (simp [*]; done)))) rfl ?_ ?_
                    · go_simp
                      (try simp only [i64_w])
                      try rfl
                    refine hK.out _ _ ⟨B5_, d5_, B6_, d6_, m20_, (by rw [ha.out]; exact putSel_upk 17 hb_ rfl rfl rfl), Q_HBr, Q_FX, Q_FY, Q_SX, Q_SY, fun h0_ => absurd ((hoff 20 (by kernel_rfl)).symm.trans h0_) (by decide), fun h0_ => absurd ((hoff 20 (by kernel_rfl)).symm.trans h0_) (by decide)⟩
                  refine steps_cons ?_ ?_
                  · rintro b a w' ⟨B5_, d5_, B6_, d6_, m20_, ha, Q_HBr, Q_FX, Q_FY, Q_SX, Q_SY, Q_FD, Q_X20_⟩ hb_ hon hoff
                    refine ⟨_, rfl, fun K hK => ?_⟩
                    have e70 : a.tmps[70]? = some (.bool true) := by rw [ha]; exact putSel_on (e := (17, 70, .bool true)) 17 rfl rfl (hon 17 (by kernel_rfl)) rfl
                    have e68 : a.tmps[68]? = some (.bool false) := by rw [ha]; exact putSel_on (e := (15, 68, .bool false)) 15 rfl rfl (hon 15 (by kernel_rfl)) rfl
                    replace ha := Aside0.mk ha
                    have HBr := Aside0.mk Q_HBr
                    have FX := Aside0.mk Q_FX
                    have FY := Aside0.mk Q_FY
                    have SX := Aside0.mk Q_SX
                    have SY := Aside0.mk Q_SY
                    refine value_ (w1 := w') (v := .bool true) (wanted_on rfl rfl rfl (e68.trans (by first | rfl | (simp [*]; done)))) rfl ?_ ?_
                    · go_simp
                      (try simp only [i64_w])
                      try rfl
                    refine hK.out _ _ ⟨B5_, d5_, B6_, d6_, m20_, (by rw [ha.out]; exact putSel_upk 18 hb_ rfl rfl rfl), Q_HBr, Q_FX, Q_FY, Q_SX, Q_SY, fun h0_ => absurd ((hoff 20 (by kernel_rfl)).symm.trans h0_) (by decide), fun h0_ => absurd ((hoff 20 (by kernel_rfl)).symm.trans h0_) (by decide)⟩
                  refine steps_cons ?_ ?_
                  · rintro b a w' ⟨B5_, d5_, B6_, d6_, m20_, ha, Q_HBr, Q_FX, Q_FY, Q_SX, Q_SY, Q_FD, Q_X20_⟩ hb_ hon hoff
                    refine ⟨_, rfl, fun K hK => ?_⟩
                    have e7 : a.tmps[7]? = some (.string (encS x)) := by rw [ha]; exact (putSel_off rfl).trans rfl
                    have e71 : a.tmps[71]? = some (.bool true) := by rw [ha]; exact putSel_on (e := (18, 71, .bool true)) 18 rfl rfl (hon 18 (by kernel_rfl)) rfl
                    replace ha := Aside0.mk ha
                    have HBr := Aside0.mk Q_HBr
                    have FX := Aside0.mk Q_FX
                    have FY := Aside0.mk Q_FY
                    have SX := Aside0.mk Q_SX
                    have SY := Aside0.mk Q_SY
                    refine value_ (w1 := w') (v := .string (encS x)) (wanted_on rfl rfl rfl (e71.trans (by first | rfl | (simp [*]; done)))) rfl ?_ ?_
                    · go_simp
                      (try simp only [i64_w])
                      try rfl
                    refine hK.out _ _ ⟨B5_, d5_, B6_, d6_, m20_, (by rw [ha.out]; exact putSel_upk 19 hb_ rfl rfl rfl), Q_HBr, Q_FX, Q_FY, Q_SX, Q_SY, fun h0_ => absurd ((hoff 20 (by kernel_rfl)).symm.trans h0_) (by decide), fun h0_ => absurd ((hoff 20 (by kernel_rfl)).symm.trans h0_) (by decide)⟩
                  refine steps_cons ?_ ?_
                  · rintro b a w' ⟨B5_, d5_, B6_, d6_, m20_, ha, Q_HBr, Q_FX, Q_FY, Q_SX, Q_SY, Q_FD, Q_X20_⟩ hb_ hon hoff
                    refine ⟨_, rfl, fun K hK => ?_⟩
                    have e72 : a.tmps[72]? = some (.string (encS x)) := by rw [ha]; exact putSel_on (e := (19, 72, .string (encS x))) 19 rfl rfl (hon 19 (by kernel_rfl)) rfl
                    have e71 : a.tmps[71]? = some (.bool true) := by rw [ha]; exact putSel_on (e := (18, 71, .bool true)) 18 rfl rfl (hon 18 (by kernel_rfl)) rfl
                    replace ha := Aside0.mk ha
                    have HBr := Aside0.mk Q_HBr
                    have FX := Aside0.mk Q_FX
                    have FY := Aside0.mk Q_FY
                    have SX := Aside0.mk Q_SX
                    have SY := Aside0.mk Q_SY
                    refine goes_ Tryd.func9 (by kernel_rfl) rfl #[.string (encS x)] (wanted_on rfl rfl rfl (e71.trans (by first | rfl | (simp [*]; done)))) rfl rfl (by first | (simp only [List.map_toArray, List.map_cons, List.map_nil, Act.eval, Array.getD_eq_getD_getElem?, Option.getD_some, e72, e71]; done) | (simp only [List.map_toArray, List.map_cons, List.map_nil, Act.eval, Array.getD_eq_getD_getElem?, Option.getD_some, e72, e71]; rfl)) ?_
                    refine (dec_x (encS x) HZX.out x HDX.out x5 x6 HN5.out HN6.out w').mono ?_
                    rintro e w1 ⟨b5z_, d5z_, b6z_, d6z_, rfl, hS_, hb1⟩
                    refine ⟨_, rfl, ?_⟩
                    refine hK.out _ _ ⟨b5z_, d5z_, b6z_, d6z_, (.agg #[.int .i64 x.f0.f0, .int .i64 x.f0.f1, .int .i64 x.f0.f2, .int .i64 x.f0.f3, .int .i64 x.f0.f4, .slice b5z_ x5 d5z_, .slice b6z_ x6 d6z_]), (by rw [ha.out]; exact putSel_upk 20 hb_ rfl rfl rfl), below_step HBr.out hb1, blk_below hb1 FX.out, blk_below hb1 FY.out, SV_below SX.out hb1, SV_below SY.out hb1, fun _ => hS_, fun _ => rfl⟩
                  refine steps_cons ?_ ?_
                  · rintro b a w' ⟨B5_, d5_, B6_, d6_, m20_, ha, Q_HBr, Q_FX, Q_FY, Q_SX, Q_SY, Q_FD, Q_X20_⟩ hb_ hon hoff
                    refine ⟨_, rfl, fun K hK => ?_⟩
                    have e3 : a.tmps[3]? = some (.pointer (some ⟨xb, 0, none⟩)) := by rw [ha]; exact (putSel_off rfl).trans rfl
                    have e71 : a.tmps[71]? = some (.bool true) := by rw [ha]; exact putSel_on (e := (18, 71, .bool true)) 18 rfl rfl (hon 18 (by kernel_rfl)) rfl
                    replace ha := Aside0.mk ha
                    have HBr := Aside0.mk Q_HBr
                    have FX := Aside0.mk Q_FX
                    have FY := Aside0.mk Q_FY
                    have SX := Aside0.mk Q_SX
                    have SY := Aside0.mk Q_SY
                    have z0_ : w'.cell? ⟨xb, 0, none⟩ = some (.int .i64 x.f0.f0) := (blk_cell (FX.out) 0).trans rfl
                    have z1_ : w'.cell? ⟨xb, 1, none⟩ = some (.int .i64 x.f0.f1) := (blk_cell (FX.out) 1).trans rfl
                    have z2_ : w'.cell? ⟨xb, 2, none⟩ = some (.int .i64 x.f0.f2) := (blk_cell (FX.out) 2).trans rfl
                    have z3_ : w'.cell? ⟨xb, 3, none⟩ = some (.int .i64 x.f0.f3) := (blk_cell (FX.out) 3).trans rfl
                    have z4_ : w'.cell? ⟨xb, 4, none⟩ = some (.int .i64 x.f0.f4) := (blk_cell (FX.out) 4).trans rfl
                    have z5_ : w'.cell? ⟨xb, 5, none⟩ = some (.slice A5 x5 c5) := (blk_cell (FX.out) 5).trans rfl
                    have z6_ : w'.cell? ⟨xb, 6, none⟩ = some (.slice A6 x6 c6) := (blk_cell (FX.out) 6).trans rfl
                    refine value_ (w1 := w') (v := .agg #[.int .i64 x.f0.f0, .int .i64 x.f0.f1, .int .i64 x.f0.f2, .int .i64 x.f0.f3, .int .i64 x.f0.f4, .slice A5 x5 c5, .slice A6 x6 c6]) (wanted_on rfl rfl rfl (e71.trans (by first | rfl | (simp [*]; done)))) rfl ?_ ?_
                    · go_simp
                      (try simp only [i64_w])
                      try rfl
                    refine hK.out _ _ ⟨B5_, d5_, B6_, d6_, m20_, (by rw [ha.out]; exact putSel_upk 21 hb_ rfl rfl rfl), Q_HBr, Q_FX, Q_FY, Q_SX, Q_SY, Q_FD, Q_X20_⟩
                  refine steps_cons ?_ ?_
                  · rintro b a w' ⟨B5_, d5_, B6_, d6_, m20_, ha, Q_HBr, Q_FX, Q_FY, Q_SX, Q_SY, Q_FD, Q_X20_⟩ hb_ hon hoff
                    refine ⟨_, rfl, fun K hK => ?_⟩
                    have e73 : a.tmps[73]? = some (m20_) := by rw [ha]; exact putSel_on (e := (20, 73, m20_)) 20 rfl rfl (hon 20 (by kernel_rfl)) rfl
                    rw [Q_X20_ (hon 20 (by kernel_rfl))] at e73
                    have e74 : a.tmps[74]? = some (.agg #[.int .i64 x.f0.f0, .int .i64 x.f0.f1, .int .i64 x.f0.f2, .int .i64 x.f0.f3, .int .i64 x.f0.f4, .slice A5 x5 c5, .slice A6 x6 c6]) := by rw [ha]; exact putSel_on (e := (21, 74, .agg #[.int .i64 x.f0.f0, .int .i64 x.f0.f1, .int .i64 x.f0.f2, .int .i64 x.f0.f3, .int .i64 x.f0.f4, .slice A5 x5 c5, .slice A6 x6 c6])) 21 rfl rfl (hon 21 (by kernel_rfl)) rfl
                    have e71 : a.tmps[71]? = some (.bool true) := by rw [ha]; exact putSel_on (e := (18, 71, .bool true)) 18 rfl rfl (hon 18 (by kernel_rfl)) rfl
                    replace ha := Aside0.mk ha
                    have HBr := Aside0.mk Q_HBr
                    have FX := Aside0.mk Q_FX
                    have FY := Aside0.mk Q_FY
                    have SX := Aside0.mk Q_SX
                    have SY := Aside0.mk Q_SY
                    have FD := Aside0.mk (Q_FD (hon 20 (by kernel_rfl)))
                    refine goes_ Tryd.func12 (by kernel_rfl) rfl #[.agg #[.int .i64 x.f0.f0, .int .i64 x.f0.f1, .int .i64 x.f0.f2, .int .i64 x.f0.f3, .int .i64 x.f0.f4, .slice B5_ x5 d5_, .slice B6_ x6 d6_], .agg #[.int .i64 x.f0.f0, .int .i64 x.f0.f1, .int .i64 x.f0.f2, .int .i64 x.f0.f3, .int .i64 x.f0.f4, .slice A5 x5 c5, .slice A6 x6 c6]] (wanted_on rfl rfl rfl (e71.trans (by first | rfl | (simp [*]; done)))) rfl rfl (by first | (simp only [List.map_toArray, List.map_cons, List.map_nil, Act.eval, Array.getD_eq_getD_getElem?, Option.getD_some, e73, e74, e71]; done) | (simp only [List.map_toArray, List.map_cons, List.map_nil, Act.eval, Array.getD_eq_getD_getElem?, Option.getD_some, e73, e74, e71]; rfl)) ?_
                    refine (same_c FD.out SX.out).mono ?_
                    rintro e w1 ⟨hr_, hb1⟩
                    rw [sameB_self] at hr_
                    subst hr_
                    refine ⟨_, rfl, ?_⟩
                    refine hK.out _ _ ⟨B5_, d5_, B6_, d6_, m20_, (by rw [ha.out]; exact putSel_upk 22 hb_ rfl rfl rfl), below_step HBr.out hb1, blk_below hb1 FX.out, blk_below hb1 FY.out, SV_below SX.out hb1, SV_below SY.out hb1, fun _ => SV_below FD.out hb1, Q_X20_⟩
                  refine steps_cons ?_ ?_
                  · rintro b a w' ⟨B5_, d5_, B6_, d6_, m20_, ha, Q_HBr, Q_FX, Q_FY, Q_SX, Q_SY, Q_FD, Q_X20_⟩ hb_ hon hoff
                    refine ⟨_, rfl, fun K hK => ?_⟩
                    have e75 : a.tmps[75]? = some (.bool true) := by rw [ha]; exact putSel_on (e := (22, 75, .bool true)) 22 rfl rfl (hon 22 (by kernel_rfl)) rfl
                    have e71 : a.tmps[71]? = some (.bool true) := by rw [ha]; exact putSel_on (e := (18, 71, .bool true)) 18 rfl rfl (hon 18 (by kernel_rfl)) rfl
                    replace ha := Aside0.mk ha
                    have HBr := Aside0.mk Q_HBr
                    have FX := Aside0.mk Q_FX
                    have FY := Aside0.mk Q_FY
                    have SX := Aside0.mk Q_SX
                    have SY := Aside0.mk Q_SY
                    have FD := Aside0.mk (Q_FD (hon 20 (by kernel_rfl)))
                    refine value_ (w1 := w') (v := .bool false) (wanted_on rfl rfl rfl (e71.trans (by first | rfl | (simp [*]; done)))) rfl ?_ ?_
                    · go_simp
                      (try simp only [i64_w])
                      try rfl
                    refine hK.out _ _ ⟨B5_, d5_, B6_, d6_, m20_, (by rw [ha.out]; exact putSel_upk 23 hb_ rfl rfl rfl), Q_HBr, Q_FX, Q_FY, Q_SX, Q_SY, Q_FD, Q_X20_⟩
                  refine steps_cons ?_ ?_
                  · rintro b a w' ⟨B5_, d5_, B6_, d6_, m20_, ha, Q_HBr, Q_FX, Q_FY, Q_SX, Q_SY, Q_FD, Q_X20_⟩ hb_ hon hoff
                    refine ⟨_, rfl, fun K hK => ?_⟩
                    have e71 : a.tmps[71]? = some (.bool true) := by rw [ha]; exact putSel_on (e := (18, 71, .bool true)) 18 rfl rfl (hon 18 (by kernel_rfl)) rfl
                    have e76 : a.tmps[76]? = some (.bool false) := by rw [ha]; exact putSel_on (e := (23, 76, .bool false)) 23 rfl rfl (hon 23 (by kernel_rfl)) rfl
                    have e68 : a.tmps[68]? = some (.bool false) := by rw [ha]; exact putSel_on (e := (15, 68, .bool false)) 15 rfl rfl (hon 15 (by kernel_rfl)) rfl
                    replace ha := Aside0.mk ha
                    have HBr := Aside0.mk Q_HBr
                    have FX := Aside0.mk Q_FX
                    have FY := Aside0.mk Q_FY
                    have SX := Aside0.mk Q_SX
                    have SY := Aside0.mk Q_SY
                    have FD := Aside0.mk (Q_FD (hon 20 (by kernel_rfl)))
                    refine value_ (w1 := w') (v := .bool false) (wanted_on rfl rfl rfl (e68.trans (by first | rfl | (simp [*]; done)))) rfl ?_ ?_
                    · go_simp
                      (try simp only [i64_w])
                      try rfl
                    refine hK.out _ _ ⟨B5_, d5_, B6_, d6_, m20_, (by rw [ha.out]; exact putSel_upk 24 hb_ rfl rfl rfl), Q_HBr, Q_FX, Q_FY, Q_SX, Q_SY, Q_FD, Q_X20_⟩
                  refine steps_cons ?_ ?_
                  · rintro b a w' ⟨B5_, d5_, B6_, d6_, m20_, ha, Q_HBr, Q_FX, Q_FY, Q_SX, Q_SY, Q_FD, Q_X20_⟩ hb_ hon hoff
                    refine ⟨_, rfl, fun K hK => ?_⟩
                    have e68 : a.tmps[68]? = some (.bool false) := by rw [ha]; exact putSel_on (e := (15, 68, .bool false)) 15 rfl rfl (hon 15 (by kernel_rfl)) rfl
                    have e77 : a.tmps[77]? = some (.bool false) := by rw [ha]; exact putSel_on (e := (24, 77, .bool false)) 24 rfl rfl (hon 24 (by kernel_rfl)) rfl
                    replace ha := Aside0.mk ha
                    have HBr := Aside0.mk Q_HBr
                    have FX := Aside0.mk Q_FX
                    have FY := Aside0.mk Q_FY
                    have SX := Aside0.mk Q_SX
                    have SY := Aside0.mk Q_SY
                    have FD := Aside0.mk (Q_FD (hon 20 (by kernel_rfl)))
                    refine value_ (w1 := w') (v := .bool false) ?cA ?cB ?_ ?_
                    case cA => rfl
                    case cB => rfl
                    · go_simp
                      (try simp only [i64_w])
                      try rfl
                    refine hK.out _ _ ⟨B5_, d5_, B6_, d6_, m20_, (by rw [ha.out]; exact putSel_upk 25 hb_ rfl rfl rfl), Q_HBr, Q_FX, Q_FY, Q_SX, Q_SY, Q_FD, Q_X20_⟩
                  exact steps_nil
                rintro b a w' hall ⟨B5_, d5_, B6_, d6_, m20_, ha, Q_HBr, Q_FX, Q_FY, Q_SX, Q_SY, Q_FD, Q_X20_⟩
                clear FX FY HBr SX SY
                have hb0_ := hall 0 (by kernel_rfl)
                have hb1_ := hall 1 (by kernel_rfl)
                have hb2_ := hall 2 (by kernel_rfl)
                have hb3_ := hall 3 (by kernel_rfl)
                have hb4_ := hall 4 (by kernel_rfl)
                have hb5_ := hall 5 (by kernel_rfl)
                have hb6_ := hall 6 (by kernel_rfl)
                have hb7_ := hall 7 (by kernel_rfl)
                have hb8_ := hall 8 (by kernel_rfl)
                have hb9_ := hall 9 (by kernel_rfl)
                have hb10_ := hall 10 (by kernel_rfl)
                have hb11_ := hall 11 (by kernel_rfl)
                have hb12_ := hall 12 (by kernel_rfl)
                have hb13_ := hall 13 (by kernel_rfl)
                have hb14_ := hall 14 (by kernel_rfl)
                have hb15_ := hall 15 (by kernel_rfl)
                have hb16_ := hall 16 (by kernel_rfl)
                have hb17_ := hall 17 (by kernel_rfl)
                have hb18_ := hall 18 (by kernel_rfl)
                have hb19_ := hall 19 (by kernel_rfl)
                have hb20_ := hall 20 (by kernel_rfl)
                have hb21_ := hall 21 (by kernel_rfl)
                have hb22_ := hall 22 (by kernel_rfl)
                have hb23_ := hall 23 (by kernel_rfl)
                have hb24_ := hall 24 (by kernel_rfl)
                have hb25_ := hall 25 (by kernel_rfl)
                subst ha
                obtain rfl := Q_X20_ hb20_
                simp only [putSel, hb0_, hb1_, hb2_, hb3_, hb4_, hb5_, hb6_, hb7_, hb8_, hb9_, hb10_, hb11_, hb12_, hb13_, hb14_, hb15_, hb16_, hb17_, hb18_, hb19_, hb20_, hb21_, hb22_, hb23_, hb24_, hb25_, if_true, Act.put, List.setIfInBounds_toArray, List.set_cons_zero, List.set_cons_succ]
                have HBr := Aside0.mk Q_HBr
                clear Q_HBr
                have FX := Aside0.mk Q_FX
                clear Q_FX
                have FY := Aside0.mk Q_FY
                clear Q_FY
                have SX := Aside0.mk Q_SX
                clear Q_SX
                have SY := Aside0.mk Q_SY
                clear Q_SY
                have FD := Aside0.mk (Q_FD hb20_)
                clear Q_FD
                clear hall hb0_ hb1_ hb2_ hb3_ hb4_ hb5_ hb6_ hb7_ hb8_ hb9_ hb10_ hb11_ hb12_ hb13_ hb14_ hb15_ hb16_ hb17_ hb18_ hb19_ hb20_ hb21_ hb22_ hb23_ hb24_ hb25_
                replace HB := HBr
                go_wp2_with fail
                obtain ⟨z, hz⟩ : ∃ z, z = dec s := ⟨_, rfl⟩
                obtain ⟨z5, hz5⟩ : ∃ n, n = z.f1.length := ⟨_, rfl⟩
                obtain ⟨z6, hz6⟩ : ∃ n, n = z.f2.length := ⟨_, rfl⟩
                have hez : encB z = true := by rw [hz]; exact enc_dec s
                have HZZ : Aside0 ((encS z).size ≤ 40000) := Aside0.mk (by rw [encS_size]; have := (good_conf (enc_parts hez).1).2.1; have := (good_conf (enc_parts hez).1).2.2.1; omega)
                have HDZ : Aside0 (z = dec (encS z)) := Aside0.mk (dec_back hez).symm
                have HL5 : Aside0 (z5 ≤ 64) := Aside0.mk (by rw [hz5]; exact (good_conf (enc_parts hez).1).2.1)
                have HL6 : Aside0 (z6 ≤ 4096) := Aside0.mk (by rw [hz6]; exact (good_conf (enc_parts hez).1).2.2.1)
                have HSZ : Aside0 (((encS z).size : Int) = 6 + 4 * (z5 : Int) + (z6 : Int)) := Aside0.mk (by rw [encS_size, ← hz5, ← hz6]; omega)
                have HEZ := Aside0.mk hez
                have HZ5 := Aside0.mk hz5
                have HZ6 := Aside0.mk hz6
                clear hez
                refine (dec_x s (by omega) z hz z5 z6 hz5 hz6 _).mono ?_
                rintro e w5 ⟨E5, h5, E6, h6, rfl, hS, hb⟩
                clear hz hz5 hz6
                have hb1 := below_alloc (Below.refl w5.heap.size w5) (.cells #[.int .i64 z.f0.f0, .int .i64 z.f0.f1, .int .i64 z.f0.f2, .int .i64 z.f0.f3, .int .i64 z.f0.f4, .slice E5 z5 h5, .slice E6 z6 h6] 28)
                have FZ := Aside0.mk (blk_new w5 (.cells #[.int .i64 z.f0.f0, .int .i64 z.f0.f1, .int .i64 z.f0.f2, .int .i64 z.f0.f3, .int .i64 z.f0.f4, .slice E5 z5 h5, .slice E6 z6 h6] 28))
                have SZ := Aside0.mk (SV_below hS hb1)
                replace HB := Aside0.mk (below_step (below_step HB.out hb) hb1)
                clear hb hb1 hS FX FY SX SY
                go_wp2_with fail
                refine (enc_s HEZ.out SZ.out aA (pw_cell_below HB.out HA.out)).mono ?_
                rintro e w6 ⟨rfl, hb⟩
                replace FZ := Aside0.mk (blk_below hb FZ.out)
                replace SZ := Aside0.mk (SV_below SZ.out hb)
                replace HB := Aside0.mk (below_step HB.out hb)
                clear hb
                obtain ⟨zb, hzb⟩ : ∃ n, n = w5.heap.size := ⟨_, rfl⟩
                rw [← hzb] at FZ ⊢
                clear hzb
                go_wp2
                refine start_ (n := 23) (S := fun w' => True) (ds := []) #[false, false, false, false, false, false, false, false, false, false, false, false, false, false, false, false, false, false, false, false, false, false, false] (by kernel_rfl) rfl rfl trivial (fun hHeld => ?_)
                refine with_tabW backd.tab11 backd.bits11 (fun HT_ HW_ => ?_)
                have HBr := Aside0.mk (below_drew1 HB.out)
                refine inv_at [0, 1, 2, 3, 4, 5, 6, 7, 8, 9, 10, 11, 12, 13, 14, 15, 16, 17, 18, 19, 20, 21, 22] (fun a0_ b a w' => ∃ (B5_ : Option Addr) (d5_ : Nat) (B6_ : Option Addr) (d6_ : Nat) (m4_ : Value), a = putSel a0_ b [(0, 86, .nilIface), (1, 87, .bool true), (2, 88, .bool true), (3, 89, .string (encS z)), (4, 90, m4_), (5, 91, .agg #[.int .i64 z.f0.f0, .int .i64 z.f0.f1, .int .i64 z.f0.f2, .int .i64 z.f0.f3, .int .i64 z.f0.f4, .slice E5 z5 h5, .slice E6 z6 h6]), (6, 92, .bool true), (7, 93, .bool true), (8, 94, .bool true), (9, 95, .string (encS z)), (10, 96, .int .i64 (6 + 4 * (z5 : Int) + (z6 : Int))), (11, 97, .pointer (some ⟨zb, 5, none⟩)), (12, 98, .slice E5 z5 h5), (13, 99, .int .i64 (z5 : Int)), (14, 100, .int .i64 (4 * (z5 : Int))), (15, 101, .int .i64 (6 + 4 * (z5 : Int))), (16, 102, .pointer (some ⟨zb, 6, none⟩)), (17, 103, .slice E6 z6 h6), (18, 104, .int .i64 (z6 : Int)), (19, 105, .int .i64 (6 + 4 * (z5 : Int) + (z6 : Int))), (20, 106, .bool true), (21, 107, .bool true), (22, 6, .bool true)] ∧ (Below w.heap.size w w') ∧ (w'.heap[zb]? = some (.cells #[.int .i64 z.f0.f0, .int .i64 z.f0.f1, .int .i64 z.f0.f2, .int .i64 z.f0.f3, .int .i64 z.f0.f4, .slice E5 z5 h5, .slice E6 z6 h6] 28 (0, 0))) ∧ (SV w' z (.agg #[.int .i64 z.f0.f0, .int .i64 z.f0.f1, .int .i64 z.f0.f2, .int .i64 z.f0.f3, .int .i64 z.f0.f4, .slice E5 z5 h5, .slice E6 z6 h6])) ∧ (b 4 = true → SV w' z (.agg #[.int .i64 z.f0.f0, .int .i64 z.f0.f1, .int .i64 z.f0.f2, .int .i64 z.f0.f3, .int .i64 z.f0.f4, .slice B5_ z5 d5_, .slice B6_ z6 d6_])) ∧ (b 4 = true → (m4_ : Value) = .agg #[.int .i64 z.f0.f0, .int .i64 z.f0.f1, .int .i64 z.f0.f2, .int .i64 z.f0.f3, .int .i64 z.f0.f4, .slice B5_ z5 d5_, .slice B6_ z6 d6_])) HT_.out HW_.out (by kernel_rfl) (by kernel_rfl) ?_ ?_ ?_
                · exact ⟨none, 0, none, 0, .bool false, by simp only [putSel, Bool.false_eq_true, if_false], HBr.out, FZ.out, SV_below SZ.out (below_drew (Below.refl _ _)), fun h_ => absurd h_ (by decide), fun h_ => absurd h_ (by decide)⟩
                · skip
                  clear FZ HBr SZ
                  refine steps_cons ?_ ?_
                  · rintro b a w' ⟨B5_, d5_, B6_, d6_, m4_, ha, Q_HBr, Q_FZ, Q_SZ, Q_FD, Q_X4_⟩ hb_ hon hoff
                    refine ⟨_, rfl, fun K hK => ?_⟩
                    have e13 : a.tmps[13]? = some (.nilIface) := by rw [ha]; exact (putSel_off rfl).trans rfl
                    replace ha := Aside0.mk ha
                    have HBr := Aside0.mk Q_HBr
                    have FZ := Aside0.mk Q_FZ
                    have SZ := Aside0.mk Q_SZ
                    refine value_ (w1 := w') (v := .nilIface) ?cA ?cB ?_ ?_
                    case cA => rfl
                    case cB => rfl
                    · go_simp
                      (try simp only [i64_w])
                      (try (unfold wrap64; omega))
                      try rfl
                    refine hK.out _ _ ⟨B5_, d5_, B6_, d6_, m4_, (by rw [ha.out]; exact putSel_upk 0 hb_ rfl rfl rfl), Q_HBr, Q_FZ, Q_SZ, fun h0_ => absurd ((hoff 4 (by kernel_rfl)).symm.trans h0_) (by decide), fun h0_ => absurd ((hoff 4 (by kernel_rfl)).symm.trans h0_) (by decide)⟩
                  refine steps_cons ?_ ?_
                  · rintro b a w' ⟨B5_, d5_, B6_, d6_, m4_, ha, Q_HBr, Q_FZ, Q_SZ, Q_FD, Q_X4_⟩ hb_ hon hoff
                    refine ⟨_, rfl, fun K hK => ?_⟩
                    have e86 : a.tmps[86]? = some (.nilIface) := by rw [ha]; exact putSel_on (e := (0, 86, .nilIface)) 0 rfl rfl (hon 0 (by kernel_rfl)) rfl
                    replace ha := Aside0.mk ha
                    have HBr := Aside0.mk Q_HBr
                    have FZ := Aside0.mk Q_FZ
                    have SZ := Aside0.mk Q_SZ
                    refine value_ (w1 := w') (v := .bool true) ?cA ?cB ?_ ?_
                    case cA => rfl
                    case cB => rfl
                    · go_simp
                      (try simp only [i64_w])
                      (try (unfold wrap64; omega))
                      try rfl
                    refine hK.out _ _ ⟨B5_, d5_, B6_, d6_, m4_, (by rw [ha.out]; exact putSel_upk 1 hb_ rfl rfl rfl), Q_HBr, Q_FZ, Q_SZ, fun h0_ => absurd ((hoff 4 (by kernel_rfl)).symm.trans h0_) (by decide), fun h0_ => absurd ((hoff 4 (by kernel_rfl)).symm.trans h0_) (by decide)⟩
                  refine steps_cons ?_ ?_
                  · rintro b a w' ⟨B5_, d5_, B6_, d6_, m4_, ha, Q_HBr, Q_FZ, Q_SZ, Q_FD, Q_X4_⟩ hb_ hon hoff
                    refine ⟨_, rfl, fun K hK => ?_⟩
                    have e87 : a.tmps[87]? = some (.bool true) := by rw [ha]; exact putSel_on (e := (1, 87, .bool true)) 1 rfl rfl (hon 1 (by kernel_rfl)) rfl
                    replace ha := Aside0.mk ha
                    have HBr := Aside0.mk Q_HBr
                    have FZ := Aside0.mk Q_FZ
                    have SZ := Aside0.mk Q_SZ
                    refine value_ (w1 := w') (v := .bool true) ?cA ?cB ?_ ?_
                    case cA => rfl
                    case cB => rfl
                    · go_simp
                      (try simp only [i64_w])
                      (try (unfold wrap64; omega))
                      try rfl
                    refine hK.out _ _ ⟨B5_, d5_, B6_, d6_, m4_, (by rw [ha.out]; exact putSel_upk 2 hb_ rfl rfl rfl), Q_HBr, Q_FZ, Q_SZ, fun h0_ => absurd ((hoff 4 (by kernel_rfl)).symm.trans h0_) (by decide), fun h0_ => absurd ((hoff 4 (by kernel_rfl)).symm.trans h0_) (by decide)⟩
                  refine steps_cons ?_ ?_
                  · rintro b a w' ⟨B5_, d5_, B6_, d6_, m4_, ha, Q_HBr, Q_FZ, Q_SZ, Q_FD, Q_X4_⟩ hb_ hon hoff
                    refine ⟨_, rfl, fun K hK => ?_⟩
                    have e12 : a.tmps[12]? = some (.string (encS z)) := by rw [ha]; exact (putSel_off rfl).trans rfl
                    have e88 : a.tmps[88]? = some (.bool true) := by rw [ha]; exact putSel_on (e := (2, 88, .bool true)) 2 rfl rfl (hon 2 (by kernel_rfl)) rfl
                    replace ha := Aside0.mk ha
                    have HBr := Aside0.mk Q_HBr
                    have FZ := Aside0.mk Q_FZ
                    have SZ := Aside0.mk Q_SZ
                    refine value_ (w1 := w') (v := .string (encS z)) (wanted_on rfl rfl rfl (e88.trans (by first | rfl | (simp [*]; done)))) rfl ?_ ?_
                    · go_simp
                      (try simp only [i64_w])
                      (try (unfold wrap64; omega))
                      try rfl
                    refine hK.out _ _ ⟨B5_, d5_, B6_, d6_, m4_, (by rw [ha.out]; exact putSel_upk 3 hb_ rfl rfl rfl), Q_HBr, Q_FZ, Q_SZ, fun h0_ => absurd ((hoff 4 (by kernel_rfl)).symm.trans h0_) (by decide), fun h0_ => absurd ((hoff 4 (by kernel_rfl)).symm.trans h0_) (by decide)⟩
                  refine steps_cons ?_ ?_
                  · rintro b a w' ⟨B5_, d5_, B6_, d6_, m4_, ha, Q_HBr, Q_FZ, Q_SZ, Q_FD, Q_X4_⟩ hb_ hon hoff
                    refine ⟨_, rfl, fun K hK => ?_⟩
                    have e89 : a.tmps[89]? = some (.string (encS z)) := by rw [ha]; exact putSel_on (e := (3, 89, .string (encS z))) 3 rfl rfl (hon 3 (by kernel_rfl)) rfl
                    have e88 : a.tmps[88]? = some (.bool true) := by rw [ha]; exact putSel_on (e := (2, 88, .bool true)) 2 rfl rfl (hon 2 (by kernel_rfl)) rfl
                    replace ha := Aside0.mk ha
                    have HBr := Aside0.mk Q_HBr
                    have FZ := Aside0.mk Q_FZ
                    have SZ := Aside0.mk Q_SZ
                    refine goes_ Tryd.func9 (by kernel_rfl) rfl #[.string (encS z)] (wanted_on rfl rfl rfl (e88.trans (by first | rfl | (simp [*]; done)))) rfl rfl (by first | (simp only [List.map_toArray, List.map_cons, List.map_nil, Act.eval, Array.getD_eq_getD_getElem?, Option.getD_some, e89, e88]; done) | (simp only [List.map_toArray, List.map_cons, List.map_nil, Act.eval, Array.getD_eq_getD_getElem?, Option.getD_some, e89, e88]; rfl)) ?_
                    refine (dec_x (encS z) HZZ.out z HDZ.out z5 z6 HZ5.out HZ6.out w').mono ?_
                    rintro e w1 ⟨b5z_, d5z_, b6z_, d6z_, rfl, hS_, hb1⟩
                    refine ⟨_, rfl, ?_⟩
                    refine hK.out _ _ ⟨b5z_, d5z_, b6z_, d6z_, (.agg #[.int .i64 z.f0.f0, .int .i64 z.f0.f1, .int .i64 z.f0.f2, .int .i64 z.f0.f3, .int .i64 z.f0.f4, .slice b5z_ z5 d5z_, .slice b6z_ z6 d6z_]), (by rw [ha.out]; exact putSel_upk 4 hb_ rfl rfl rfl), below_step HBr.out hb1, blk_below hb1 FZ.out, SV_below SZ.out hb1, fun _ => hS_, fun _ => rfl⟩
                  refine steps_cons ?_ ?_
                  · rintro b a w' ⟨B5_, d5_, B6_, d6_, m4_, ha, Q_HBr, Q_FZ, Q_SZ, Q_FD, Q_X4_⟩ hb_ hon hoff
                    refine ⟨_, rfl, fun K hK => ?_⟩
                    have e11 : a.tmps[11]? = some (.pointer (some ⟨zb, 0, none⟩)) := by rw [ha]; exact (putSel_off rfl).trans rfl
                    have e88 : a.tmps[88]? = some (.bool true) := by rw [ha]; exact putSel_on (e := (2, 88, .bool true)) 2 rfl rfl (hon 2 (by kernel_rfl)) rfl
                    replace ha := Aside0.mk ha
                    have HBr := Aside0.mk Q_HBr
                    have FZ := Aside0.mk Q_FZ
                    have SZ := Aside0.mk Q_SZ
                    have z0_ : w'.cell? ⟨zb, 0, none⟩ = some (.int .i64 z.f0.f0) := (blk_cell (FZ.out) 0).trans rfl
                    have z1_ : w'.cell? ⟨zb, 1, none⟩ = some (.int .i64 z.f0.f1) := (blk_cell (FZ.out) 1).trans rfl
                    have z2_ : w'.cell? ⟨zb, 2, none⟩ = some (.int .i64 z.f0.f2) := (blk_cell (FZ.out) 2).trans rfl
                    have z3_ : w'.cell? ⟨zb, 3, none⟩ = some (.int .i64 z.f0.f3) := (blk_cell (FZ.out) 3).trans rfl
                    have z4_ : w'.cell? ⟨zb, 4, none⟩ = some (.int .i64 z.f0.f4) := (blk_cell (FZ.out) 4).trans rfl
                    have z5_ : w'.cell? ⟨zb, 5, none⟩ = some (.slice E5 z5 h5) := (blk_cell (FZ.out) 5).trans rfl
                    have z6_ : w'.cell? ⟨zb, 6, none⟩ = some (.slice E6 z6 h6) := (blk_cell (FZ.out) 6).trans rfl
                    refine value_ (w1 := w') (v := .agg #[.int .i64 z.f0.f0, .int .i64 z.f0.f1, .int .i64 z.f0.f2, .int .i64 z.f0.f3, .int .i64 z.f0.f4, .slice E5 z5 h5, .slice E6 z6 h6]) (wanted_on rfl rfl rfl (e88.trans (by first | rfl | (simp [*]; done)))) rfl ?_ ?_
                    · go_simp
                      (try simp only [i64_w])
                      (try (unfold wrap64; omega))
                      try rfl
                    refine hK.out _ _ ⟨B5_, d5_, B6_, d6_, m4_, (by rw [ha.out]; exact putSel_upk 5 hb_ rfl rfl rfl), Q_HBr, Q_FZ, Q_SZ, Q_FD, Q_X4_⟩
                  refine steps_cons ?_ ?_
                  · rintro b a w' ⟨B5_, d5_, B6_, d6_, m4_, ha, Q_HBr, Q_FZ, Q_SZ, Q_FD, Q_X4_⟩ hb_ hon hoff
                    refine ⟨_, rfl, fun K hK => ?_⟩
                    have e90 : a.tmps[90]? = some (m4_) := by rw [ha]; exact putSel_on (e := (4, 90, m4_)) 4 rfl rfl (hon 4 (by kernel_rfl)) rfl
                    rw [Q_X4_ (hon 4 (by kernel_rfl))] at e90
                    have e91 : a.tmps[91]? = some (.agg #[.int .i64 z.f0.f0, .int .i64 z.f0.f1, .int .i64 z.f0.f2, .int .i64 z.f0.f3, .int .i64 z.f0.f4, .slice E5 z5 h5, .slice E6 z6 h6]) := by rw [ha]; exact putSel_on (e := (5, 91, .agg #[.int .i64 z.f0.f0, .int .i64 z.f0.f1, .int .i64 z.f0.f2, .int .i64 z.f0.f3, .int .i64 z.f0.f4, .slice E5 z5 h5, .slice E6 z6 h6])) 5 rfl rfl (hon 5 (by kernel_rfl)) rfl
                    have e88 : a.tmps[88]? = some (.bool true) := by rw [ha]; exact putSel_on (e := (2, 88, .bool true)) 2 rfl rfl (hon 2 (by kernel_rfl)) rfl
                    replace ha := Aside0.mk ha
                    have HBr := Aside0.mk Q_HBr
                    have FZ := Aside0.mk Q_FZ
                    have SZ := Aside0.mk Q_SZ
                    have FD := Aside0.mk (Q_FD (hon 4 (by kernel_rfl)))
                    refine goes_ Tryd.func12 (by kernel_rfl) rfl #[.agg #[.int .i64 z.f0.f0, .int .i64 z.f0.f1, .int .i64 z.f0.f2, .int .i64 z.f0.f3, .int .i64 z.f0.f4, .slice B5_ z5 d5_, .slice B6_ z6 d6_], .agg #[.int .i64 z.f0.f0, .int .i64 z.f0.f1, .int .i64 z.f0.f2, .int .i64 z.f0.f3, .int .i64 z.f0.f4, .slice E5 z5 h5, .slice E6 z6 h6]] (wanted_on rfl rfl rfl (e88.trans (by first | rfl | (simp [*]; done)))) rfl rfl (by first | (simp only [List.map_toArray, List.map_cons, List.map_nil, Act.eval, Array.getD_eq_getD_getElem?, Option.getD_some, e90, e91, e88]; done) | (simp only [List.map_toArray, List.map_cons, List.map_nil, Act.eval, Array.getD_eq_getD_getElem?, Option.getD_some, e90, e91, e88]; rfl)) ?_
                    refine (same_c FD.out SZ.out).mono ?_
                    rintro e w1 ⟨hr_, hb1⟩
                    rw [sameB_self] at hr_
                    subst hr_
                    refine ⟨_, rfl, ?_⟩
                    refine hK.out _ _ ⟨B5_, d5_, B6_, d6_, m4_, (by rw [ha.out]; exact putSel_upk 6 hb_ rfl rfl rfl), below_step HBr.out hb1, blk_below hb1 FZ.out, SV_below SZ.out hb1, fun _ => SV_below FD.out hb1, Q_X4_⟩
                  refine steps_cons ?_ ?_
                  · rintro b a w' ⟨B5_, d5_, B6_, d6_, m4_, ha, Q_HBr, Q_FZ, Q_SZ, Q_FD, Q_X4_⟩ hb_ hon hoff
                    refine ⟨_, rfl, fun K hK => ?_⟩
                    have e88 : a.tmps[88]? = some (.bool true) := by rw [ha]; exact putSel_on (e := (2, 88, .bool true)) 2 rfl rfl (hon 2 (by kernel_rfl)) rfl
                    have e92 : a.tmps[92]? = some (.bool true) := by rw [ha]; exact putSel_on (e := (6, 92, .bool true)) 6 rfl rfl (hon 6 (by kernel_rfl)) rfl
                    replace ha := Aside0.mk ha
                    have HBr := Aside0.mk Q_HBr
                    have FZ := Aside0.mk Q_FZ
                    have SZ := Aside0.mk Q_SZ
                    have FD := Aside0.mk (Q_FD (hon 4 (by kernel_rfl)))
                    refine value_ (w1 := w') (v := .bool true) ?cA ?cB ?_ ?_
                    case cA => rfl
                    case cB => rfl
                    · go_simp
                      (try simp only [i64_w])
                      (try (unfold wrap64; omega))
                      try rfl
                    refine hK.out _ _ ⟨B5_, d5_, B6_, d6_, m4_, (by rw [ha.out]; exact putSel_upk 7 hb_ rfl rfl rfl), Q_HBr, Q_FZ, Q_SZ, Q_FD, Q_X4_⟩
                  refine steps_cons ?_ ?_
                  · rintro b a w' ⟨B5_, d5_, B6_, d6_, m4_, ha, Q_HBr, Q_FZ, Q_SZ, Q_FD, Q_X4_⟩ hb_ hon hoff
                    refine ⟨_, rfl, fun K hK => ?_⟩
                    have e93 : a.tmps[93]? = some (.bool true) := by rw [ha]; exact putSel_on (e := (7, 93, .bool true)) 7 rfl rfl (hon 7 (by kernel_rfl)) rfl
                    replace ha := Aside0.mk ha
                    have HBr := Aside0.mk Q_HBr
                    have FZ := Aside0.mk Q_FZ
                    have SZ := Aside0.mk Q_SZ
                    have FD := Aside0.mk (Q_FD (hon 4 (by kernel_rfl)))
                    refine value_ (w1 := w') (v := .bool true) ?cA ?cB ?_ ?_
                    case cA => rfl
                    case cB => rfl
                    · go_simp
                      (try simp only [i64_w])
                      (try (unfold wrap64; omega))
                      try rfl
                    refine hK.out _ _ ⟨B5_, d5_, B6_, d6_, m4_, (by rw [ha.out]; exact putSel_upk 8 hb_ rfl rfl rfl), Q_HBr, Q_FZ, Q_SZ, Q_FD, Q_X4_⟩
                  refine steps_cons ?_ ?_
                  · rintro b a w' ⟨B5_, d5_, B6_, d6_, m4_, ha, Q_HBr, Q_FZ, Q_SZ, Q_FD, Q_X4_⟩ hb_ hon hoff
                    refine ⟨_, rfl, fun K hK => ?_⟩
                    have e12 : a.tmps[12]? = some (.string (encS z)) := by rw [ha]; exact (putSel_off rfl).trans rfl
                    have e94 : a.tmps[94]? = some (.bool true) := by rw [ha]; exact putSel_on (e := (8, 94, .bool true)) 8 rfl rfl (hon 8 (by kernel_rfl)) rfl
                    replace ha := Aside0.mk ha
                    have HBr := Aside0.mk Q_HBr
                    have FZ := Aside0.mk Q_FZ
                    have SZ := Aside0.mk Q_SZ
                    have FD := Aside0.mk (Q_FD (hon 4 (by kernel_rfl)))
                    refine value_ (w1 := w') (v := .string (encS z)) (wanted_on rfl rfl rfl (e94.trans (by first | rfl | (simp [*]; done)))) rfl ?_ ?_
                    · go_simp
                      (try simp only [i64_w])
                      (try (unfold wrap64; omega))
                      try rfl
                    refine hK.out _ _ ⟨B5_, d5_, B6_, d6_, m4_, (by rw [ha.out]; exact putSel_upk 9 hb_ rfl rfl rfl), Q_HBr, Q_FZ, Q_SZ, Q_FD, Q_X4_⟩
                  refine steps_cons ?_ ?_
                  · rintro b a w' ⟨B5_, d5_, B6_, d6_, m4_, ha, Q_HBr, Q_FZ, Q_SZ, Q_FD, Q_X4_⟩ hb_ hon hoff
                    refine ⟨_, rfl, fun K hK => ?_⟩
                    have e95 : a.tmps[95]? = some (.string (encS z)) := by rw [ha]; exact putSel_on (e := (9, 95, .string (encS z))) 9 rfl rfl (hon 9 (by kernel_rfl)) rfl
                    have e94 : a.tmps[94]? = some (.bool true) := by rw [ha]; exact putSel_on (e := (8, 94, .bool true)) 8 rfl rfl (hon 8 (by kernel_rfl)) rfl
                    replace ha := Aside0.mk ha
                    have HBr := Aside0.mk Q_HBr
                    have FZ := Aside0.mk Q_FZ
                    have SZ := Aside0.mk Q_SZ
                    have FD := Aside0.mk (Q_FD (hon 4 (by kernel_rfl)))
                    have zb_ := HSZ.out
                    have zc_ := HL5.out
                    have zd_ := HL6.out
                    refine value_ (w1 := w') (v := .int .i64 (6 + 4 * (z5 : Int) + (z6 : Int))) (wanted_on rfl rfl rfl (e94.trans (by first | rfl | (simp [*]; done)))) rfl ?_ ?_
                    · go_simp
                      (try simp only [i64_w])
                      (try (unfold wrap64; omega))
                      try rfl
                    refine hK.out _ _ ⟨B5_, d5_, B6_, d6_, m4_, (by rw [ha.out]; exact putSel_upk 10 hb_ rfl rfl rfl), Q_HBr, Q_FZ, Q_SZ, Q_FD, Q_X4_⟩
                  refine steps_cons ?_ ?_
                  · rintro b a w' ⟨B5_, d5_, B6_, d6_, m4_, ha, Q_HBr, Q_FZ, Q_SZ, Q_FD, Q_X4_⟩ hb_ hon hoff
                    refine ⟨_, rfl, fun K hK => ?_⟩
                    have e11 : a.tmps[11]? = some (.pointer (some ⟨zb, 0, none⟩)) := by rw [ha]; exact (putSel_off rfl).trans rfl
                    have e94 : a.tmps[94]? = some (.bool true) := by rw [ha]; exact putSel_on (e := (8, 94, .bool true)) 8 rfl rfl (hon 8 (by kernel_rfl)) rfl
                    replace ha := Aside0.mk ha
                    have HBr := Aside0.mk Q_HBr
                    have FZ := Aside0.mk Q_FZ
                    have SZ := Aside0.mk Q_SZ
                    have FD := Aside0.mk (Q_FD (hon 4 (by kernel_rfl)))
                    refine value_ (w1 := w') (v := .pointer (some ⟨zb, 5, none⟩)) (wanted_on rfl rfl rfl (e94.trans (by first | rfl | (simp [*]; done)))) rfl ?_ ?_
                    · go_simp
                      (try simp only [i64_w])
                      (try (unfold wrap64; omega))
                      try rfl
                    refine hK.out _ _ ⟨B5_, d5_, B6_, d6_, m4_, (by rw [ha.out]; exact putSel_upk 11 hb_ rfl rfl rfl), Q_HBr, Q_FZ, Q_SZ, Q_FD, Q_X4_⟩
                  refine steps_cons ?_ ?_
                  · rintro b a w' ⟨B5_, d5_, B6_, d6_, m4_, ha, Q_HBr, Q_FZ, Q_SZ, Q_FD, Q_X4_⟩ hb_ hon hoff
                    refine ⟨_, rfl, fun K hK => ?_⟩
                    have e97 : a.tmps[97]? = some (.pointer (some ⟨zb, 5, none⟩)) := by rw [ha]; exact putSel_on (e := (11, 97, .pointer (some ⟨zb, 5, none⟩))) 11 rfl rfl (hon 11 (by kernel_rfl)) rfl
                    have e94 : a.tmps[94]? = some (.bool true) := by rw [ha]; exact putSel_on (e := (8, 94, .bool true)) 8 rfl rfl (hon 8 (by kernel_rfl)) rfl
                    replace ha := Aside0.mk ha
                    have HBr := Aside0.mk Q_HBr
                    have FZ := Aside0.mk Q_FZ
                    have SZ := Aside0.mk Q_SZ
                    have FD := Aside0.mk (Q_FD (hon 4 (by kernel_rfl)))
                    have z5_ : w'.cell? ⟨zb, 5, none⟩ = some (.slice E5 z5 h5) := (blk_cell (FZ.out) 5).trans rfl
                    refine value_ (w1 := w') (v := .slice E5 z5 h5) (wanted_on rfl rfl rfl (e94.trans (by first | rfl | (simp [*]; done)))) rfl ?_ ?_
                    · go_simp
                      (try simp only [i64_w])
                      (try (unfold wrap64; omega))
                      try rfl
                    refine hK.out _ _ ⟨B5_, d5_, B6_, d6_, m4_, (by rw [ha.out]; exact putSel_upk 12 hb_ rfl rfl rfl), Q_HBr, Q_FZ, Q_SZ, Q_FD, Q_X4_⟩
                  refine steps_cons ?_ ?_
                  · rintro b a w' ⟨B5_, d5_, B6_, d6_, m4_, ha, Q_HBr, Q_FZ, Q_SZ, Q_FD, Q_X4_⟩ hb_ hon hoff
                    refine ⟨_, rfl, fun K hK => ?_⟩
                    have e98 : a.tmps[98]? = some (.slice E5 z5 h5) := by rw [ha]; exact putSel_on (e := (12, 98, .slice E5 z5 h5)) 12 rfl rfl (hon 12 (by kernel_rfl)) rfl
                    have e94 : a.tmps[94]? = some (.bool true) := by rw [ha]; exact putSel_on (e := (8, 94, .bool true)) 8 rfl rfl (hon 8 (by kernel_rfl)) rfl
                    replace ha := Aside0.mk ha
                    have HBr := Aside0.mk Q_HBr
                    have FZ := Aside0.mk Q_FZ
                    have SZ := Aside0.mk Q_SZ
                    have FD := Aside0.mk (Q_FD (hon 4 (by kernel_rfl)))
                    refine value_ (w1 := w') (v := .int .i64 (z5 : Int)) (wanted_on rfl rfl rfl (e94.trans (by first | rfl | (simp [*]; done)))) rfl ?_ ?_
                    · go_simp
                      (try simp only [i64_w])
                      (try (unfold wrap64; omega))
                      try rfl
                    refine hK.out _ _ ⟨B5_, d5_, B6_, d6_, m4_, (by rw [ha.out]; exact putSel_upk 13 hb_ rfl rfl rfl), Q_HBr, Q_FZ, Q_SZ, Q_FD, Q_X4_⟩
                  refine steps_cons ?_ ?_
                  · rintro b a w' ⟨B5_, d5_, B6_, d6_, m4_, ha, Q_HBr, Q_FZ, Q_SZ, Q_FD, Q_X4_⟩ hb_ hon hoff
                    refine ⟨_, rfl, fun K hK => ?_⟩
                    have e99 : a.tmps[99]? = some (.int .i64 (z5 : Int)) := by rw [ha]; exact putSel_on (e := (13, 99, .int .i64 (z5 : Int))) 13 rfl rfl (hon 13 (by kernel_rfl)) rfl
                    have e94 : a.tmps[94]? = some (.bool true) := by rw [ha]; exact putSel_on (e := (8, 94, .bool true)) 8 rfl rfl (hon 8 (by kernel_rfl)) rfl
                    replace ha := Aside0.mk ha
                    have HBr := Aside0.mk Q_HBr
                    have FZ := Aside0.mk Q_FZ
                    have SZ := Aside0.mk Q_SZ
                    have FD := Aside0.mk (Q_FD (hon 4 (by kernel_rfl)))
                    have zb_ := HSZ.out
                    have zc_ := HL5.out
                    have zd_ := HL6.out
                    refine value_ (w1 := w') (v := .int .i64 (4 * (z5 : Int))) (wanted_on rfl rfl rfl (e94.trans (by first | rfl | (simp [*]; done)))) rfl ?_ ?_
                    · go_simp
                      (try simp only [i64_w])
                      (try (unfold wrap64; omega))
                      try rfl
                    refine hK.out _ _ ⟨B5_, d5_, B6_, d6_, m4_, (by rw [ha.out]; exact putSel_upk 14 hb_ rfl rfl rfl), Q_HBr, Q_FZ, Q_SZ, Q_FD, Q_X4_⟩
                  refine steps_cons ?_ ?_
                  · rintro b a w' ⟨B5_, d5_, B6_, d6_, m4_, ha, Q_HBr, Q_FZ, Q_SZ, Q_FD, Q_X4_⟩ hb_ hon hoff
                    refine ⟨_, rfl, fun K hK => ?_⟩
                    have e100 : a.tmps[100]? = some (.int .i64 (4 * (z5 : Int))) := by rw [ha]; exact putSel_on (e := (14, 100, .int .i64 (4 * (z5 : Int)))) 14 rfl rfl (hon 14 (by kernel_rfl)) rfl
                    have e94 : a.tmps[94]? = some (.bool true) := by rw [ha]; exact putSel_on (e := (8, 94, .bool true)) 8 rfl rfl (hon 8 (by kernel_rfl)) rfl
                    replace ha := Aside0.mk ha
                    have HBr := Aside0.mk Q_HBr
                    have FZ := Aside0.mk Q_FZ
                    have SZ := Aside0.mk Q_SZ
                    have FD := Aside0.mk (Q_FD (hon 4 (by kernel_rfl)))
                    have zb_ := HSZ.out
                    have zc_ := HL5.out
                    have zd_ := HL6.out
                    refine value_ (w1 := w') (v := .int .i64 (6 + 4 * (z5 : Int))) (wanted_on rfl rfl rfl (e94.trans (by first | rfl | (simp [*]; done)))) rfl ?_ ?_
                    · go_simp
                      (try simp only [i64_w])
                      (try (unfold wrap64; omega))
                      try rfl
                    refine hK.out _ _ ⟨B5_, d5_, B6_, d6_, m4_, (by rw [ha.out]; exact putSel_upk 15 hb_ rfl rfl rfl), Q_HBr, Q_FZ, Q_SZ, Q_FD, Q_X4_⟩
                  refine steps_cons ?_ ?_
                  · rintro b a w' ⟨B5_, d5_, B6_, d6_, m4_, ha, Q_HBr, Q_FZ, Q_SZ, Q_FD, Q_X4_⟩ hb_ hon hoff
                    refine ⟨_, rfl, fun K hK => ?_⟩
                    have e11 : a.tmps[11]? = some (.pointer (some ⟨zb, 0, none⟩)) := by rw [ha]; exact (putSel_off rfl).trans rfl
                    have e94 : a.tmps[94]? = some (.bool true) := by rw [ha]; exact putSel_on (e := (8, 94, .bool true)) 8 rfl rfl (hon 8 (by kernel_rfl)) rfl
                    replace ha := Aside0.mk ha
                    have HBr := Aside0.mk Q_HBr
                    have FZ := Aside0.mk Q_FZ
                    have SZ := Aside0.mk Q_SZ
                    have FD := Aside0.mk (Q_FD (hon 4 (by kernel_rfl)))
                    refine value_ (w1 := w') (v := .pointer (some ⟨zb, 6, none⟩)) (wanted_on rfl rfl rfl (e94.trans (by first | rfl | (simp [*]; done)))) rfl ?_ ?_
                    · go_simp
                      (try simp only [i64_w])
                      (try (unfold wrap64; omega))
                      try rfl
                    refine hK.out _ _ ⟨B5_, d5_, B6_, d6_, m4_, (by rw [ha.out]; exact putSel_upk 16 hb_ rfl rfl rfl), Q_HBr, Q_FZ, Q_SZ, Q_FD, Q_X4_⟩
                  refine steps_cons ?_ ?_
                  · rintro b a w' ⟨B5_, d5_, B6_, d6_, m4_, ha, Q_HBr, Q_FZ, Q_SZ, Q_FD, Q_X4_⟩ hb_ hon hoff
                    refine ⟨_, rfl, fun K hK => ?_⟩
                    have e102 : a.tmps[102]? = some (.pointer (some ⟨zb, 6, none⟩)) := by rw [ha]; exact putSel_on (e := (16, 102, .pointer (some ⟨zb, 6, none⟩))) 16 rfl rfl (hon 16 (by kernel_rfl)) rfl
                    have e94 : a.tmps[94]? = some (.bool true) := by rw [ha]; exact putSel_on (e := (8, 94, .bool true)) 8 rfl rfl (hon 8 (by kernel_rfl)) rfl
                    replace ha := Aside0.mk ha
                    have HBr := Aside0.mk Q_HBr
                    have FZ := Aside0.mk Q_FZ
                    have SZ := Aside0.mk Q_SZ
                    have FD := Aside0.mk (Q_FD (hon 4 (by kernel_rfl)))
                    have z6_ : w'.cell? ⟨zb, 6, none⟩ = some (.slice E6 z6 h6) := (blk_cell (FZ.out) 6).trans rfl
                    refine value_ (w1 := w') (v := .slice E6 z6 h6) (wanted_on rfl rfl rfl (e94.trans (by first | rfl | (simp [*]; done)))) rfl ?_ ?_
                    · go_simp
                      (try simp only [i64_w])
                      (try (unfold wrap64; omega))
                      try rfl
                    refine hK.out _ _ ⟨B5_, d5_, B6_, d6_, m4_, (by rw [ha.out]; exact putSel_upk 17 hb_ rfl rfl rfl), Q_HBr, Q_FZ, Q_SZ, Q_FD, Q_X4_⟩
                  refine steps_cons ?_ ?_
                  · rintro b a w' ⟨B5_, d5_, B6_, d6_, m4_, ha, Q_HBr, Q_FZ, Q_SZ, Q_FD, Q_X4_⟩ hb_ hon hoff
                    refine ⟨_, rfl, fun K hK => ?_⟩
                    have e103 : a.tmps[103]? = some (.slice E6 z6 h6) := by rw [ha]; exact putSel_on (e := (17, 103, .slice E6 z6 h6)) 17 rfl rfl (hon 17 (by kernel_rfl)) rfl
                    have e94 : a.tmps[94]? = some (.bool true) := by rw [ha]; exact putSel_on (e := (8, 94, .bool true)) 8 rfl rfl (hon 8 (by kernel_rfl)) rfl
                    replace ha := Aside0.mk ha
                    have HBr := Aside0.mk Q_HBr
                    have FZ := Aside0.mk Q_FZ
                    have SZ := Aside0.mk Q_SZ
                    have FD := Aside0.mk (Q_FD (hon 4 (by kernel_rfl)))
                    refine value_ (w1 := w') (v := .int .i64 (z6 : Int)) (wanted_on rfl rfl rfl (e94.trans (by first | rfl | (simp [*]; done)))) rfl ?_ ?_
                    · go_simp
                      (try simp only [i64_w])
                      (try (unfold wrap64; omega))
                      try rfl
                    refine hK.out _ _ ⟨B5_, d5_, B6_, d6_, m4_, (by rw [ha.out]; exact putSel_upk 18 hb_ rfl rfl rfl), Q_HBr, Q_FZ, Q_SZ, Q_FD, Q_X4_⟩
                  refine steps_cons ?_ ?_
                  · rintro b a w' ⟨B5_, d5_, B6_, d6_, m4_, ha, Q_HBr, Q_FZ, Q_SZ, Q_FD, Q_X4_⟩ hb_ hon hoff
                    refine ⟨_, rfl, fun K hK => ?_⟩
                    have e101 : a.tmps[101]? = some (.int .i64 (6 + 4 * (z5 : Int))) := by rw [ha]; exact putSel_on (e := (15, 101, .int .i64 (6 + 4 * (z5 : Int)))) 15 rfl rfl (hon 15 (by kernel_rfl)) rfl
                    have e104 : a.tmps[104]? = some (.int .i64 (z6 : Int)) := by rw [ha]; exact putSel_on (e := (18, 104, .int .i64 (z6 : Int))) 18 rfl rfl (hon 18 (by kernel_rfl)) rfl
                    have e94 : a.tmps[94]? = some (.bool true) := by rw [ha]; exact putSel_on (e := (8, 94, .bool true)) 8 rfl rfl (hon 8 (by kernel_rfl)) rfl
                    replace ha := Aside0.mk ha
                    have HBr := Aside0.mk Q_HBr
                    have FZ := Aside0.mk Q_FZ
                    have SZ := Aside0.mk Q_SZ
                    have FD := Aside0.mk (Q_FD (hon 4 (by kernel_rfl)))
                    have zb_ := HSZ.out
                    have zc_ := HL5.out
                    have zd_ := HL6.out
                    refine value_ (w1 := w') (v := .int .i64 (6 + 4 * (z5 : Int) + (z6 : Int))) (wanted_on rfl rfl rfl (e94.trans (by first | rfl | (simp [*]; done)))) rfl ?_ ?_
                    · go_simp
                      (try simp only [i64_w])
                      (try (unfold wrap64; omega))
                      try rfl
                    refine hK.out _ _ ⟨B5_, d5_, B6_, d6_, m4_, (by rw [ha.out]; exact putSel_upk 19 hb_ rfl rfl rfl), Q_HBr, Q_FZ, Q_SZ, Q_FD, Q_X4_⟩
                  refine steps_cons ?_ ?_
                  · rintro b a w' ⟨B5_, d5_, B6_, d6_, m4_, ha, Q_HBr, Q_FZ, Q_SZ, Q_FD, Q_X4_⟩ hb_ hon hoff
                    refine ⟨_, rfl, fun K hK => ?_⟩
                    have e96 : a.tmps[96]? = some (.int .i64 (6 + 4 * (z5 : Int) + (z6 : Int))) := by rw [ha]; exact putSel_on (e := (10, 96, .int .i64 (6 + 4 * (z5 : Int) + (z6 : Int)))) 10 rfl rfl (hon 10 (by kernel_rfl)) rfl
                    have e105 : a.tmps[105]? = some (.int .i64 (6 + 4 * (z5 : Int) + (z6 : Int))) := by rw [ha]; exact putSel_on (e := (19, 105, .int .i64 (6 + 4 * (z5 : Int) + (z6 : Int)))) 19 rfl rfl (hon 19 (by kernel_rfl)) rfl
                    have e94 : a.tmps[94]? = some (.bool true) := by rw [ha]; exact putSel_on (e := (8, 94, .bool true)) 8 rfl rfl (hon 8 (by kernel_rfl)) rfl
                    replace ha := Aside0.mk ha
                    have HBr := Aside0.mk Q_HBr
                    have FZ := Aside0.mk Q_FZ
                    have SZ := Aside0.mk Q_SZ
                    have FD := Aside0.mk (Q_FD (hon 4 (by kernel_rfl)))
                    have zb_ := HSZ.out
                    have zc_ := HL5.out
                    have zd_ := HL6.out
                    refine value_ (w1 := w') (v := .bool true) (wanted_on rfl rfl rfl (e94.trans (by first | rfl | (simp [*]; done)))) rfl ?_ ?_
                    · go_simp
                      (try simp only [i64_w])
                      (try (unfold wrap64; omega))
                      try rfl
                    refine hK.out _ _ ⟨B5_, d5_, B6_, d6_, m4_, (by rw [ha.out]; exact putSel_upk 20 hb_ rfl rfl rfl), Q_HBr, Q_FZ, Q_SZ, Q_FD, Q_X4_⟩
                  refine steps_cons ?_ ?_
                  · rintro b a w' ⟨B5_, d5_, B6_, d6_, m4_, ha, Q_HBr, Q_FZ, Q_SZ, Q_FD, Q_X4_⟩ hb_ hon hoff
                    refine ⟨_, rfl, fun K hK => ?_⟩
                    have e94 : a.tmps[94]? = some (.bool true) := by rw [ha]; exact putSel_on (e := (8, 94, .bool true)) 8 rfl rfl (hon 8 (by kernel_rfl)) rfl
                    have e106 : a.tmps[106]? = some (.bool true) := by rw [ha]; exact putSel_on (e := (20, 106, .bool true)) 20 rfl rfl (hon 20 (by kernel_rfl)) rfl
                    replace ha := Aside0.mk ha
                    have HBr := Aside0.mk Q_HBr
                    have FZ := Aside0.mk Q_FZ
                    have SZ := Aside0.mk Q_SZ
                    have FD := Aside0.mk (Q_FD (hon 4 (by kernel_rfl)))
                    refine value_ (w1 := w') (v := .bool true) ?cA ?cB ?_ ?_
                    case cA => rfl
                    case cB => rfl
                    · go_simp
                      (try simp only [i64_w])
                      (try (unfold wrap64; omega))
                      try rfl
                    refine hK.out _ _ ⟨B5_, d5_, B6_, d6_, m4_, (by rw [ha.out]; exact putSel_upk 21 hb_ rfl rfl rfl), Q_HBr, Q_FZ, Q_SZ, Q_FD, Q_X4_⟩
                  refine steps_cons ?_ ?_
                  · rintro b a w' ⟨B5_, d5_, B6_, d6_, m4_, ha, Q_HBr, Q_FZ, Q_SZ, Q_FD, Q_X4_⟩ hb_ hon hoff
                    refine ⟨_, rfl, fun K hK => ?_⟩
                    have e107 : a.tmps[107]? = some (.bool true) := by rw [ha]; exact putSel_on (e := (21, 107, .bool true)) 21 rfl rfl (hon 21 (by kernel_rfl)) rfl
                    replace ha := Aside0.mk ha
                    have HBr := Aside0.mk Q_HBr
                    have FZ := Aside0.mk Q_FZ
                    have SZ := Aside0.mk Q_SZ
                    have FD := Aside0.mk (Q_FD (hon 4 (by kernel_rfl)))
                    refine value_ (w1 := w') (v := .bool true) ?cA ?cB ?_ ?_
                    case cA => rfl
                    case cB => rfl
                    · go_simp
                      (try simp only [i64_w])
                      (try (unfold wrap64; omega))
                      try rfl
                    refine hK.out _ _ ⟨B5_, d5_, B6_, d6_, m4_, (by rw [ha.out]; exact putSel_upk 22 hb_ rfl rfl rfl), Q_HBr, Q_FZ, Q_SZ, Q_FD, Q_X4_⟩
                  exact steps_nil
                rintro b a w' hall ⟨B5_, d5_, B6_, d6_, m4_, ha, Q_HBr, Q_FZ, Q_SZ, Q_FD, Q_X4_⟩
                clear FZ HBr SZ
                have hb0_ := hall 0 (by kernel_rfl)
                have hb1_ := hall 1 (by kernel_rfl)
                have hb2_ := hall 2 (by kernel_rfl)
                have hb3_ := hall 3 (by kernel_rfl)
                have hb4_ := hall 4 (by kernel_rfl)
                have hb5_ := hall 5 (by kernel_rfl)
                have hb6_ := hall 6 (by kernel_rfl)
                have hb7_ := hall 7 (by kernel_rfl)
                have hb8_ := hall 8 (by kernel_rfl)
                have hb9_ := hall 9 (by kernel_rfl)
                have hb10_ := hall 10 (by kernel_rfl)
                have hb11_ := hall 11 (by kernel_rfl)
                have hb12_ := hall 12 (by kernel_rfl)
                have hb13_ := hall 13 (by kernel_rfl)
                have hb14_ := hall 14 (by kernel_rfl)
                have hb15_ := hall 15 (by kernel_rfl)
                have hb16_ := hall 16 (by kernel_rfl)
                have hb17_ := hall 17 (by kernel_rfl)
                have hb18_ := hall 18 (by kernel_rfl)
                have hb19_ := hall 19 (by kernel_rfl)
                have hb20_ := hall 20 (by kernel_rfl)
                have hb21_ := hall 21 (by kernel_rfl)
                have hb22_ := hall 22 (by kernel_rfl)
                subst ha
                obtain rfl := Q_X4_ hb4_
                simp only [putSel, hb0_, hb1_, hb2_, hb3_, hb4_, hb5_, hb6_, hb7_, hb8_, hb9_, hb10_, hb11_, hb12_, hb13_, hb14_, hb15_, hb16_, hb17_, hb18_, hb19_, hb20_, hb21_, hb22_, if_true, Act.put, List.setIfInBounds_toArray, List.set_cons_zero, List.set_cons_succ]
                have HBr := Aside0.mk Q_HBr
                clear Q_HBr
                have FZ := Aside0.mk Q_FZ
                clear Q_FZ
                have SZ := Aside0.mk Q_SZ
                clear Q_SZ
                have FD := Aside0.mk (Q_FD hb4_)
                clear Q_FD
                clear hall hb0_ hb1_ hb2_ hb3_ hb4_ hb5_ hb6_ hb7_ hb8_ hb9_ hb10_ hb11_ hb12_ hb13_ hb14_ hb15_ hb16_ hb17_ hb18_ hb19_ hb20_ hb21_ hb22_
                go_wp2
                go_ret
                exact ⟨rfl, HBr.out⟩
              · obtain ⟨rfl, rfl⟩ := hx1 hx
                obtain ⟨rfl, rfl⟩ := hy1 hy
                have HEX := Aside0.mk hx
                have HEY := Aside0.mk hy
                clear hx1 hx2 hy1 hy2 hx hy
                have HZX : Aside0 ((encS x).size ≤ 40000) := Aside0.mk (by rw [encS_size]; have := (good_conf (enc_parts HEX.out).1).2.1; have := (good_conf (enc_parts HEX.out).1).2.2.1; omega)
                have HDX : Aside0 (x = dec (encS x)) := Aside0.mk (dec_back HEX.out).symm
                rw [show strOfNums (encL x) = encS x from rfl, show strOfNums (encL y) = encS y from rfl]
                obtain ⟨bb, hbb⟩ : ∃ b, b = sameB x y := ⟨_, rfl⟩
                have HBB : Aside0 (sameB x y = bb) := Aside0.mk hbb.symm
                have HEB : Aside0 (((encS x).toList == (encS y).toList) = bb) := Aside0.mk (by rw [hbb]; exact str_same HEX.out HEY.out)
                clear hbb
                go_wp2
                refine start_ (n := 26) (S := fun w' => True) (ds := []) #[false, false, false, false, false, false, false, false, false, false, false, false, false, false, false, false, false, false, false, false, false, false, false, false, false, false] (by kernel_rfl) rfl rfl trivial (fun hHeld => ?_)
                refine with_tabW backc.tab7 backc.bits7 (fun HT_ HW_ => ?_)
                have HBr := Aside0.mk (below_drew1 HB.out)
                refine inv_at [0, 1, 2, 3, 4, 5, 6, 7, 8, 9, 10, 11, 12, 13, 14, 15, 16, 17, 18, 19, 20, 21, 22, 23, 24, 25] (fun a0_ b a w' => ∃ (B5_ : Option Addr) (d5_ : Nat) (B6_ : Option Addr) (d6_ : Nat) (m20_ : Value), a = putSel a0_ b [(0, 53, .nilIface), (1, 54, .bool true), (2, 55, .bool true), (3, 56, .nilIface), (4, 57, .bool true), (5, 58, .bool true), (6, 59, .bool true), (7, 60, .string (encS x)), (8, 61, .string (encS y)), (9, 62, .bool bb), (10, 63, .agg #[.int .i64 x.f0.f0, .int .i64 x.f0.f1, .int .i64 x.f0.f2, .int .i64 x.f0.f3, .int .i64 x.f0.f4, .slice A5 x5 c5, .slice A6 x6 c6]), (11, 64, .agg #[.int .i64 y.f0.f0, .int .i64 y.f0.f1, .int .i64 y.f0.f2, .int .i64 y.f0.f3, .int .i64 y.f0.f4, .slice B5 y5 d5, .slice B6 y6 d6]), (12, 65, .bool bb), (13, 66, .bool false), (14, 67, .bool false), (15, 68, .bool false), (16, 69, .nilIface), (17, 70, .bool true), (18, 71, .bool true), (19, 72, .string (encS x)), (20, 73, m20_), (21, 74, .agg #[.int .i64 x.f0.f0, .int .i64 x.f0.f1, .int .i64 x.f0.f2, .int .i64 x.f0.f3, .int .i64 x.f0.f4, .slice A5 x5 c5, .slice A6 x6 c6]), (22, 75, .bool true), (23, 76, .bool false), (24, 77, .bool false), (25, 78, .bool false)] ∧ (Below w.heap.size w w') ∧ (w'.heap[xb]? = some (.cells #[.int .i64 x.f0.f0, .int .i64 x.f0.f1, .int .i64 x.f0.f2, .int .i64 x.f0.f3, .int .i64 x.f0.f4, .slice A5 x5 c5, .slice A6 x6 c6] 28 (0, 0))) ∧ (w'.heap[yb]? = some (.cells #[.int .i64 y.f0.f0, .int .i64 y.f0.f1, .int .i64 y.f0.f2, .int .i64 y.f0.f3, .int .i64 y.f0.f4, .slice B5 y5 d5, .slice B6 y6 d6] 28 (0, 0))) ∧ (SV w' x (.agg #[.int .i64 x.f0.f0, .int .i64 x.f0.f1, .int .i64 x.f0.f2, .int .i64 x.f0.f3, .int .i64 x.f0.f4, .slice A5 x5 c5, .slice A6 x6 c6])) ∧ (SV w' y (.agg #[.int .i64 y.f0.f0, .int .i64 y.f0.f1, .int .i64 y.f0.f2, .int .i64 y.f0.f3, .int .i64 y.f0.f4, .slice B5 y5 d5, .slice B6 y6 d6])) ∧ (b 20 = true → SV w' x (.agg #[.int .i64 x.f0.f0, .int .i64 x.f0.f1, .int .i64 x.f0.f2, .int .i64 x.f0.f3, .int .i64 x.f0.f4, .slice B5_ x5 d5_, .slice B6_ x6 d6_])) ∧ (b 20 = true → (m20_ : Value) = .agg #[.int .i64 x.f0.f0, .int .i64 x.f0.f1, .int .i64 x.f0.f2, .int .i64 x.f0.f3, .int .i64 x.f0.f4, .slice B5_ x5 d5_, .slice B6_ x6 d6_])) HT_.out HW_.out (by kernel_rfl) (by kernel_rfl) ?_ ?_ ?_
                · exact ⟨none, 0, none, 0, .bool false, by simp only [putSel, Bool.false_eq_true, if_false], HBr.out, FX.out, FY.out, SV_below SX.out (below_drew (Below.refl _ _)), SV_below SY.out (below_drew (Below.refl _ _)), fun h_ => absurd h_ (by decide), fun h_ => absurd h_ (by decide)⟩
                · skip
                  clear FX FY HBr SX SY
                  refine steps_cons ?_ ?_
                  · rintro b a w' ⟨B5_, d5_, B6_, d6_, m20_, ha, Q_HBr, Q_FX, Q_FY, Q_SX, Q_SY, Q_FD, Q_X20_⟩ hb_ hon hoff
                    refine ⟨_, rfl, fun K hK => ?_⟩
                    have e8 : a.tmps[8]? = some (.nilIface) := by rw [ha]; exact (putSel_off rfl).trans rfl
                    replace ha := Aside0.mk ha
                    have HBr := Aside0.mk Q_HBr
                    have FX := Aside0.mk Q_FX
                    have FY := Aside0.mk Q_FY
                    have SX := Aside0.mk Q_SX
                    have SY := Aside0.mk Q_SY
                    refine value_ (w1 := w') (v := .nilIface) ?cA ?cB ?_ ?_
                    case cA => rfl
                    case cB => rfl
                    · go_simp
                      (try simp only [i64_w])
                      try rfl
                    refine hK.out _ _ ⟨B5_, d5_, B6_, d6_, m20_, (by rw [ha.out]; exact putSel_upk 0 hb_ rfl rfl rfl), Q_HBr, Q_FX, Q_FY, Q_SX, Q_SY, fun h0_ => absurd ((hoff 20 (by kernel_rfl)).symm.trans h0_) (by decide), fun h0_ => absurd ((hoff 20 (by kernel_rfl)).symm.trans h0_) (by decide)⟩
                  refine steps_cons ?_ ?_
                  · rintro b a w' ⟨B5_, d5_, B6_, d6_, m20_, ha, Q_HBr, Q_FX, Q_FY, Q_SX, Q_SY, Q_FD, Q_X20_⟩ hb_ hon hoff
                    refine ⟨_, rfl, fun K hK => ?_⟩
                    have e53 : a.tmps[53]? = some (.nilIface) := by rw [ha]; exact putSel_on (e := (0, 53, .nilIface)) 0 rfl rfl (hon 0 (by kernel_rfl)) rfl
                    replace ha := Aside0.mk ha
                    have HBr := Aside0.mk Q_HBr
                    have FX := Aside0.mk Q_FX
                    have FY := Aside0.mk Q_FY
                    have SX := Aside0.mk Q_SX
                    have SY := Aside0.mk Q_SY
                    refine value_ (w1 := w') (v := .bool true) ?cA ?cB ?_ ?_
                    case cA => rfl
                    case cB => rfl
                    · go_simp
                      (try simp only [i64_w])
                      try rfl
                    refine hK.out _ _ ⟨B5_, d5_, B6_, d6_, m20_, (by rw [ha.out]; exact putSel_upk 1 hb_ rfl rfl rfl), Q_HBr, Q_FX, Q_FY, Q_SX, Q_SY, fun h0_ => absurd ((hoff 20 (by kernel_rfl)).symm.trans h0_) (by decide), fun h0_ => absurd ((hoff 20 (by kernel_rfl)).symm.trans h0_) (by decide)⟩
                  refine steps_cons ?_ ?_
                  · rintro b a w' ⟨B5_, d5_, B6_, d6_, m20_, ha, Q_HBr, Q_FX, Q_FY, Q_SX, Q_SY, Q_FD, Q_X20_⟩ hb_ hon hoff
                    refine ⟨_, rfl, fun K hK => ?_⟩
                    have e54 : a.tmps[54]? = some (.bool true) := by rw [ha]; exact putSel_on (e := (1, 54, .bool true)) 1 rfl rfl (hon 1 (by kernel_rfl)) rfl
                    replace ha := Aside0.mk ha
                    have HBr := Aside0.mk Q_HBr
                    have FX := Aside0.mk Q_FX
                    have FY := Aside0.mk Q_FY
                    have SX := Aside0.mk Q_SX
                    have SY := Aside0.mk Q_SY
                    refine value_ (w1 := w') (v := .bool true) ?cA ?cB ?_ ?_
                    case cA => rfl
                    case cB => rfl
                    · go_simp
                      (try simp only [i64_w])
                      try rfl
                    refine hK.out _ _ ⟨B5_, d5_, B6_, d6_, m20_, (by rw [ha.out]; exact putSel_upk 2 hb_ rfl rfl rfl), Q_HBr, Q_FX, Q_FY, Q_SX, Q_SY, fun h0_ => absurd ((hoff 20 (by kernel_rfl)).symm.trans h0_) (by decide), fun h0_ => absurd ((hoff 20 (by kernel_rfl)).symm.trans h0_) (by decide)⟩
                  refine steps_cons ?_ ?_
                  · rintro b a w' ⟨B5_, d5_, B6_, d6_, m20_, ha, Q_HBr, Q_FX, Q_FY, Q_SX, Q_SY, Q_FD, Q_X20_⟩ hb_ hon hoff
                    refine ⟨_, rfl, fun K hK => ?_⟩
                    have e10 : a.tmps[10]? = some (.nilIface) := by rw [ha]; exact (putSel_off rfl).trans rfl
                    have e55 : a.tmps[55]? = some (.bool true) := by rw [ha]; exact putSel_on (e := (2, 55, .bool true)) 2 rfl rfl (hon 2 (by kernel_rfl)) rfl
                    replace ha := Aside0.mk ha
                    have HBr := Aside0.mk Q_HBr
                    have FX := Aside0.mk Q_FX
                    have FY := Aside0.mk Q_FY
                    have SX := Aside0.mk Q_SX
                    have SY := Aside0.mk Q_SY
                    refine value_ (w1 := w') (v := .nilIface) (wanted_on rfl rfl rfl (e55.trans (by first | rfl | (simp [*]; done)))) rfl ?_ ?_
                    · go_simp
                      (try simp only [i64_w])
                      try rfl
                    refine hK.out _ _ ⟨B5_, d5_, B6_, d6_, m20_, (by rw [ha.out]; exact putSel_upk 3 hb_ rfl rfl rfl), Q_HBr, Q_FX, Q_FY, Q_SX, Q_SY, fun h0_ => absurd ((hoff 20 (by kernel_rfl)).symm.trans h0_) (by decide), fun h0_ => absurd ((hoff 20 (by kernel_rfl)).symm.trans h0_) (by decide)⟩
                  refine steps_cons ?_ ?_
                  · rintro b a w' ⟨B5_, d5_, B6_, d6_, m20_, ha, Q_HBr, Q_FX, Q_FY, Q_SX, Q_SY, Q_FD, Q_X20_⟩ hb_ hon hoff
                    refine ⟨_, rfl, fun K hK => ?_⟩
                    have e56 : a.tmps[56]? = some (.nilIface) := by rw [ha]; exact putSel_on (e := (3, 56, .nilIface)) 3 rfl rfl (hon 3 (by kernel_rfl)) rfl
                    have e55 : a.tmps[55]? = some (.bool true) := by rw [ha]; exact putSel_on (e := (2, 55, .bool true)) 2 rfl rfl (hon 2 (by kernel_rfl)) rfl
                    replace ha := Aside0.mk ha
                    have HBr := Aside0.mk Q_HBr
                    have FX := Aside0.mk Q_FX
                    have FY := Aside0.mk Q_FY
                    have SX := Aside0.mk Q_SX
                    have SY := Aside0.mk Q_SY
                    refine value_ (w1 := w') (v := .bool true) (wanted_on rfl rfl rfl (e55.trans (by first | rfl | (simp [*]; done)))) rfl ?_ ?_
                    · go_simp
                      (try simp only [i64_w])
                      try rfl
                    refine hK.out _ _ ⟨B5_, d5_, B6_, d6_, m20_, (by rw [ha.out]; exact putSel_upk 4 hb_ rfl rfl rfl), Q_HBr, Q_FX, Q_FY, Q_SX, Q_SY, fun h0_ => absurd ((hoff 20 (by kernel_rfl)).symm.trans h0_) (by decide), fun h0_ => absurd ((hoff 20 (by kernel_rfl)).symm.trans h0_) (by decide)⟩
                  refine steps_cons ?_ ?_
                  · rintro b a w' ⟨B5_, d5_, B6_, d6_, m20_, ha, Q_HBr, Q_FX, Q_FY, Q_SX, Q_SY, Q_FD, Q_X20_⟩ hb_ hon hoff
                    refine ⟨_, rfl, fun K hK => ?_⟩
                    have e55 : a.tmps[55]? = some (.bool true) := by rw [ha]; exact putSel_on (e := (2, 55, .bool true)) 2 rfl rfl (hon 2 (by kernel_rfl)) rfl
                    have e57 : a.tmps[57]? = some (.bool true) := by rw [ha]; exact putSel_on (e := (4, 57, .bool true)) 4 rfl rfl (hon 4 (by kernel_rfl)) rfl
                    replace ha := Aside0.mk ha
                    have HBr := Aside0.mk Q_HBr
                    have FX := Aside0.mk Q_FX
                    have FY := Aside0.mk Q_FY
                    have SX := Aside0.mk Q_SX
                    have SY := Aside0.mk Q_SY
                    refine value_ (w1 := w') (v := .bool true) ?cA ?cB ?_ ?_
                    case cA => rfl
                    case cB => rfl
                    · go_simp
                      (try simp only [i64_w])
                      try rfl
                    refine hK.out _ _ ⟨B5_, d5_, B6_, d6_, m20_, (by rw [ha.out]; exact putSel_upk 5 hb_ rfl rfl rfl), Q_HBr, Q_FX, Q_FY, Q_SX, Q_SY, fun h0_ => absurd ((hoff 20 (by kernel_rfl)).symm.trans h0_) (by decide), fun h0_ => absurd ((hoff 20 (by kernel_rfl)).symm.trans h0_) (by decide)⟩
                  refine steps_cons ?_ ?_
                  · rintro b a w' ⟨B5_, d5_, B6_, d6_, m20_, ha, Q_HBr, Q_FX, Q_FY, Q_SX, Q_SY, Q_FD, Q_X20_⟩ hb_ hon hoff
                    refine ⟨_, rfl, fun K hK => ?_⟩
                    have e58 : a.tmps[58]? = some (.bool true) := by rw [ha]; exact putSel_on (e := (5, 58, .bool true)) 5 rfl rfl (hon 5 (by kernel_rfl)) rfl
                    replace ha := Aside0.mk ha
                    have HBr := Aside0.mk Q_HBr
                    have FX := Aside0.mk Q_FX
                    have FY := Aside0.mk Q_FY
                    have SX := Aside0.mk Q_SX
                    have SY := Aside0.mk Q_SY
                    refine value_ (w1 := w') (v := .bool true) ?cA ?cB ?_ ?_
                    case cA => rfl
                    case cB => rfl
                    · go_simp
                      (try simp only [i64_w])
                      try rfl
                    refine hK.out _ _ ⟨B5_, d5_, B6_, d6_, m20_, (by rw [ha.out]; exact putSel_upk 6 hb_ rfl rfl rfl), Q_HBr, Q_FX, Q_FY, Q_SX, Q_SY, fun h0_ => absurd ((hoff 20 (by kernel_rfl)).symm.trans h0_) (by decide), fun h0_ => absurd ((hoff 20 (by kernel_rfl)).symm.trans h0_) (by decide)⟩
                  refine steps_cons ?_ ?_
                  · rintro b a w' ⟨B5_, d5_, B6_, d6_, m20_, ha, Q_HBr, Q_FX, Q_FY, Q_SX, Q_SY, Q_FD, Q_X20_⟩ hb_ hon hoff
                    refine ⟨_, rfl, fun K hK => ?_⟩
                    have e7 : a.tmps[7]? = some (.string (encS x)) := by rw [ha]; exact (putSel_off rfl).trans rfl
                    have e59 : a.tmps[59]? = some (.bool true) := by rw [ha]; exact putSel_on (e := (6, 59, .bool true)) 6 rfl rfl (hon 6 (by kernel_rfl)) rfl
                    replace ha := Aside0.mk ha
                    have HBr := Aside0.mk Q_HBr
                    have FX := Aside0.mk Q_FX
                    have FY := Aside0.mk Q_FY
                    have SX := Aside0.mk Q_SX
                    have SY := Aside0.mk Q_SY
                    refine value_ (w1 := w') (v := .string (encS x)) (wanted_on rfl rfl rfl (e59.trans (by first | rfl | (simp [*]; done)))) rfl ?_ ?_
                    · go_simp
                      (try simp only [i64_w])
                      try rfl
                    refine hK.out _ _ ⟨B5_, d5_, B6_, d6_, m20_, (by rw [ha.out]; exact putSel_upk 7 hb_ rfl rfl rfl), Q_HBr, Q_FX, Q_FY, Q_SX, Q_SY, fun h0_ => absurd ((hoff 20 (by kernel_rfl)).symm.trans h0_) (by decide), fun h0_ => absurd ((hoff 20 (by kernel_rfl)).symm.trans h0_) (by decide)⟩
                  refine steps_cons ?_ ?_
                  · rintro b a w' ⟨B5_, d5_, B6_, d6_, m20_, ha, Q_HBr, Q_FX, Q_FY, Q_SX, Q_SY, Q_FD, Q_X20_⟩ hb_ hon hoff
                    refine ⟨_, rfl, fun K hK => ?_⟩
                    have e9 : a.tmps[9]? = some (.string (encS y)) := by rw [ha]; exact (putSel_off rfl).trans rfl
                    have e59 : a.tmps[59]? = some (.bool true) := by rw [ha]; exact putSel_on (e := (6, 59, .bool true)) 6 rfl rfl (hon 6 (by kernel_rfl)) rfl
                    replace ha := Aside0.mk ha
                    have HBr := Aside0.mk Q_HBr
                    have FX := Aside0.mk Q_FX
                    have FY := Aside0.mk Q_FY
                    have SX := Aside0.mk Q_SX
                    have SY := Aside0.mk Q_SY
                    refine value_ (w1 := w') (v := .string (encS y)) (wanted_on rfl rfl rfl (e59.trans (by first | rfl | (simp [*]; done)))) rfl ?_ ?_
                    · go_simp
                      (try simp only [i64_w])
                      try rfl
                    refine hK.out _ _ ⟨B5_, d5_, B6_, d6_, m20_, (by rw [ha.out]; exact putSel_upk 8 hb_ rfl rfl rfl), Q_HBr, Q_FX, Q_FY, Q_SX, Q_SY, fun h0_ => absurd ((hoff 20 (by kernel_rfl)).symm.trans h0_) (by decide), fun h0_ => absurd ((hoff 20 (by kernel_rfl)).symm.trans h0_) (by decide)⟩
                  refine steps_cons ?_ ?_
                  · rintro b a w' ⟨B5_, d5_, B6_, d6_, m20_, ha, Q_HBr, Q_FX, Q_FY, Q_SX, Q_SY, Q_FD, Q_X20_⟩ hb_ hon hoff
                    refine ⟨_, rfl, fun K hK => ?_⟩
                    have e60 : a.tmps[60]? = some (.string (encS x)) := by rw [ha]; exact putSel_on (e := (7, 60, .string (encS x))) 7 rfl rfl (hon 7 (by kernel_rfl)) rfl
                    have e61 : a.tmps[61]? = some (.string (encS y)) := by rw [ha]; exact putSel_on (e := (8, 61, .string (encS y))) 8 rfl rfl (hon 8 (by kernel_rfl)) rfl
                    have e59 : a.tmps[59]? = some (.bool true) := by rw [ha]; exact putSel_on (e := (6, 59, .bool true)) 6 rfl rfl (hon 6 (by kernel_rfl)) rfl
                    replace ha := Aside0.mk ha
                    have HBr := Aside0.mk Q_HBr
                    have FX := Aside0.mk Q_FX
                    have FY := Aside0.mk Q_FY
                    have SX := Aside0.mk Q_SX
                    have SY := Aside0.mk Q_SY
                    have zb_ := HEB.out
                    refine value_ (w1 := w') (v := .bool bb) (wanted_on rfl rfl rfl (e59.trans (by first | rfl | (simp [*]; done)))) rfl ?_ ?_
                    · go_simp
                      (try simp only [i64_w])
                      try rfl
                    refine hK.out _ _ ⟨B5_, d5_, B6_, d6_, m20_, (by rw [ha.out]; exact putSel_upk 9 hb_ rfl rfl rfl), Q_HBr, Q_FX, Q_FY, Q_SX, Q_SY, fun h0_ => absurd ((hoff 20 (by kernel_rfl)).symm.trans h0_) (by decide), fun h0_ => absurd ((hoff 20 (by kernel_rfl)).symm.trans h0_) (by decide)⟩
                  refine steps_cons ?_ ?_
                  · rintro b a w' ⟨B5_, d5_, B6_, d6_, m20_, ha, Q_HBr, Q_FX, Q_FY, Q_SX, Q_SY, Q_FD, Q_X20_⟩ hb_ hon hoff
                    refine ⟨_, rfl, fun K hK => ?_⟩
                    have e3 : a.tmps[3]? = some (.pointer (some ⟨xb, 0, none⟩)) := by rw [ha]; exact (putSel_off rfl).trans rfl
                    have e59 : a.tmps[59]? = some (.bool true) := by rw [ha]; exact putSel_on (e := (6, 59, .bool true)) 6 rfl rfl (hon 6 (by kernel_rfl)) rfl
                    replace ha := Aside0.mk ha
                    have HBr := Aside0.mk Q_HBr
                    have FX := Aside0.mk Q_FX
                    have FY := Aside0.mk Q_FY
                    have SX := Aside0.mk Q_SX
                    have SY := Aside0.mk Q_SY
                    have z0_ : w'.cell? ⟨xb, 0, none⟩ = some (.int .i64 x.f0.f0) := (blk_cell (FX.out) 0).trans rfl
                    have z1_ : w'.cell? ⟨xb, 1, none⟩ = some (.int .i64 x.f0.f1) := (blk_cell (FX.out) 1).trans rfl
                    have z2_ : w'.cell? ⟨xb, 2, none⟩ = some (.int .i64 x.f0.f2) := (blk_cell (FX.out) 2).trans rfl
                    have z3_ : w'.cell? ⟨xb, 3, none⟩ = some (.int .i64 x.f0.f3) := (blk_cell (FX.out) 3).trans rfl
                    have z4_ : w'.cell? ⟨xb, 4, none⟩ = some (.int .i64 x.f0.f4) := (blk_cell (FX.out) 4).trans rfl
                    have z5_ : w'.cell? ⟨xb, 5, none⟩ = some (.slice A5 x5 c5) := (blk_cell (FX.out) 5).trans rfl
                    have z6_ : w'.cell? ⟨xb, 6, none⟩ = some (.slice A6 x6 c6) := (blk_cell (FX.out) 6).trans rfl
                    refine value_ (w1 := w') (v := .agg #[.int .i64 x.f0.f0, .int .i64 x.f0.f1, .int .i64 x.f0.f2, .int .i64 x.f0.f3, .int .i64 x.f0.f4, .slice A5 x5 c5, .slice A6 x6 c6]) (wanted_on rfl rfl rfl (e59.trans (by first | rfl | (simp [*]; done)))) rfl ?_ ?_
                    · go_simp
                      (try simp only [i64_w])
                      try rfl
                    refine hK.out _ _ ⟨B5_, d5_, B6_, d6_, m20_, (by rw [ha.out]; exact putSel_upk 10 hb_ rfl rfl rfl), Q_HBr, Q_FX, Q_FY, Q_SX, Q_SY, fun h0_ => absurd ((hoff 20 (by kernel_rfl)).symm.trans h0_) (by decide), fun h0_ => absurd ((hoff 20 (by kernel_rfl)).symm.trans h0_) (by decide)⟩
                  refine steps_cons ?_ ?_
                  · rintro b a w' ⟨B5_, d5_, B6_, d6_, m20_, ha, Q_HBr, Q_FX, Q_FY, Q_SX, Q_SY, Q_FD, Q_X20_⟩ hb_ hon hoff
                    refine ⟨_, rfl, fun K hK => ?_⟩
                    have e4 : a.tmps[4]? = some (.pointer (some ⟨yb, 0, none⟩)) := by rw [ha]; exact (putSel_off rfl).trans rfl
                    have e59 : a.tmps[59]? = some (.bool true) := by rw [ha]; exact putSel_on (e := (6, 59, .bool true)) 6 rfl rfl (hon 6 (by kernel_rfl)) rfl
                    replace ha := Aside0.mk ha
                    have HBr := Aside0.mk Q_HBr
                    have FX := Aside0.mk Q_FX
                    have FY := Aside0.mk Q_FY
                    have SX := Aside0.mk Q_SX
                    have SY := Aside0.mk Q_SY
                    have z0_ : w'.cell? ⟨yb, 0, none⟩ = some (.int .i64 y.f0.f0) := (blk_cell (FY.out) 0).trans rfl
                    have z1_ : w'.cell? ⟨yb, 1, none⟩ = some (.int .i64 y.f0.f1) := (blk_cell (FY.out) 1).trans rfl
                    have z2_ : w'.cell? ⟨yb, 2, none⟩ = some (.int .i64 y.f0.f2) := (blk_cell (FY.out) 2).trans rfl
                    have z3_ : w'.cell? ⟨yb, 3, none⟩ = some (.int .i64 y.f0.f3) := (blk_cell (FY.out) 3).trans rfl
                    have z4_ : w'.cell? ⟨yb, 4, none⟩ = some (.int .i64 y.f0.f4) := (blk_cell (FY.out) 4).trans rfl
                    have z5_ : w'.cell? ⟨yb, 5, none⟩ = some (.slice B5 y5 d5) := (blk_cell (FY.out) 5).trans rfl
                    have z6_ : w'.cell? ⟨yb, 6, none⟩ = some (.slice B6 y6 d6) := (blk_cell (FY.out) 6).trans rfl
                    refine value_ (w1 := w') (v := .agg #[.int .i64 y.f0.f0, .int .i64 y.f0.f1, .int .i64 y.f0.f2, .int .i64 y.f0.f3, .int .i64 y.f0.f4, .slice B5 y5 d5, .slice B6 y6 d6]) (wanted_on rfl rfl rfl (e59.trans (by first | rfl | (simp [*]; done)))) rfl ?_ ?_
                    · go_simp
                      (try simp only [i64_w])
                      try rfl
                    refine hK.out _ _ ⟨B5_, d5_, B6_, d6_, m20_, (by rw [ha.out]; exact putSel_upk 11 hb_ rfl rfl rfl), Q_HBr, Q_FX, Q_FY, Q_SX, Q_SY, fun h0_ => absurd ((hoff 20 (by kernel_rfl)).symm.trans h0_) (by decide), fun h0_ => absurd ((hoff 20 (by kernel_rfl)).symm.trans h0_) (by decide)⟩
                  refine steps_cons ?_ ?_
                  · rintro b a w' ⟨B5_, d5_, B6_, d6_, m20_, ha, Q_HBr, Q_FX, Q_FY, Q_SX, Q_SY, Q_FD, Q_X20_⟩ hb_ hon hoff
                    refine ⟨_, rfl, fun K hK => ?_⟩
                    have e63 : a.tmps[63]? = some (.agg #[.int .i64 x.f0.f0, .int .i64 x.f0.f1, .int .i64 x.f0.f2, .int .i64 x.f0.f3, .int .i64 x.f0.f4, .slice A5 x5 c5, .slice A6 x6 c6]) := by rw [ha]; exact putSel_on (e := (10, 63, .agg #[.int .i64 x.f0.f0, .int .i64 x.f0.f1, .int .i64 x.f0.f2, .int .i64 x.f0.f3, .int .i64 x.f0.f4, .slice A5 x5 c5, .slice A6 x6 c6])) 10 rfl rfl (hon 10 (by kernel_rfl)) rfl
                    have e64 : a.tmps[64]? = some (.agg #[.int .i64 y.f0.f0, .int .i64 y.f0.f1, .int .i64 y.f0.f2, .int .i64 y.f0.f3, .int .i64 y.f0.f4, .slice B5 y5 d5, .slice B6 y6 d6]) := by rw [ha]; exact putSel_on (e := (11, 64, .agg #[.int .i64 y.f0.f0, .int .i64 y.f0.f1, .int .i64 y.f0.f2, .int .i64 y.f0.f3, .int .i64 y.f0.f4, .slice B5 y5 d5, .slice B6 y6 d6])) 11 rfl rfl (hon 11 (by kernel_rfl)) rfl
                    have e59 : a.tmps[59]? = some (.bool true) := by rw [ha]; exact putSel_on (e := (6, 59, .bool true)) 6 rfl rfl (hon 6 (by kernel_rfl)) rfl
                    replace ha := Aside0.mk ha
                    have HBr := Aside0.mk Q_HBr
                    have FX := Aside0.mk Q_FX
                    have FY := Aside0.mk Q_FY
                    have SX := Aside0.mk Q_SX
                    have SY := Aside0.mk Q_SY
                    refine goes_ Tryd.func12 (by kernel_rfl) rfl #[.agg #[.int .i64 x.f0.f0, .int .i64 x.f0.f1, .int .i64 x.f0.f2, .int .i64 x.f0.f3, .int .i64 x.f0.f4, .slice A5 x5 c5, .slice A6 x6 c6], .agg #[.int .i64 y.f0.f0, .int .i64 y.f0.f1, .int .i64 y.f0.f2, .int .i64 y.f0.f3, .int .i64 y.f0.f4, .slice B5 y5 d5, .slice B6 y6 d6]] (wanted_on rfl rfl rfl (e59.trans (by first | rfl | (simp [*]; done)))) rfl rfl (by first | (simp only [List.map_toArray, List.map_cons, List.map_nil, Act.eval, Array.getD_eq_getD_getElem?, Option.getD_some, e63, e64, e59]; done) | (simp only [List.map_toArray, List.map_cons, List.map_nil, Act.eval, Array.getD_eq_getD_getElem?, Option.getD_some, e63, e64, e59]; rfl)) ?_
                    refine (same_c SX.out SY.out).mono ?_
                    rintro e w1 ⟨hr_, hb1⟩
                    rw [HBB.out] at hr_
                    subst hr_
                    refine ⟨_, rfl, ?_⟩
                    refine hK.out _ _ ⟨B5_, d5_, B6_, d6_, m20_, (by rw [ha.out]; exact putSel_upk 12 hb_ rfl rfl rfl), below_step HBr.out hb1, blk_below hb1 FX.out, blk_below hb1 FY.out, SV_below SX.out hb1, SV_below SY.out hb1, fun h0_ => absurd ((hoff 20 (by kernel_rfl)).symm.trans h0_) (by decide), fun h0_ => absurd ((hoff 20 (by kernel_rfl)).symm.trans h0_) (by decide)⟩
                  refine steps_cons ?_ ?_
                  · rintro b a w' ⟨B5_, d5_, B6_, d6_, m20_, ha, Q_HBr, Q_FX, Q_FY, Q_SX, Q_SY, Q_FD, Q_X20_⟩ hb_ hon hoff
                    refine ⟨_, rfl, fun K hK => ?_⟩
                    have e62 : a.tmps[62]? = some (.bool bb) := by rw [ha]; exact putSel_on (e := (9, 62, .bool bb)) 9 rfl rfl (hon 9 (by kernel_rfl)) rfl
                    have e65 : a.tmps[65]? = some (.bool bb) := by rw [ha]; exact putSel_on (e := (12, 65, .bool bb)) 12 rfl rfl (hon 12 (by kernel_rfl)) rfl
                    have e59 : a.tmps[59]? = some (.bool true) := by rw [ha]; exact putSel_on (e := (6, 59, .bool true)) 6 rfl rfl (hon 6 (by kernel_rfl)) rfl
                    replace ha := Aside0.mk ha
                    have HBr := Aside0.mk Q_HBr
                    have FX := Aside0.mk Q_FX
                    have FY := Aside0.mk Q_FY
                    have SX := Aside0.mk Q_SX
                    have SY := Aside0.mk Q_SY
                    refine value_ (w1 := w') (v := .bool false) (wanted_on rfl rfl rfl (e59.trans (by first | rfl | (simp [*]; done)))) rfl ?_ ?_
                    · go_simp
                      (try simp only [i64_w])
                      try rfl
                    refine hK.out _ _ ⟨B5_, d5_, B6_, d6_, m20_, (by rw [ha.out]; exact putSel_upk 13 hb_ rfl rfl rfl), Q_HBr, Q_FX, Q_FY, Q_SX, Q_SY, fun h0_ => absurd ((hoff 20 (by kernel_rfl)).symm.trans h0_) (by decide), fun h0_ => absurd ((hoff 20 (by kernel_rfl)).symm.trans h0_) (by decide)⟩
                  refine steps_cons ?_ ?_
                  · rintro b a w' ⟨B5_, d5_, B6_, d6_, m20_, ha, Q_HBr, Q_FX, Q_FY, Q_SX, Q_SY, Q_FD, Q_X20_⟩ hb_ hon hoff
                    refine ⟨_, rfl, fun K hK => ?_⟩
                    have e59 : a.tmps[59]? = some (.bool true) := by rw [ha]; exact putSel_on (e := (6, 59, .bool true)) 6 rfl rfl (hon 6 (by kernel_rfl)) rfl
                    have e66 : a.tmps[66]? = some (.bool false) := by rw [ha]; exact putSel_on (e := (13, 66, .bool false)) 13 rfl rfl (hon 13 (by kernel_rfl)) rfl
                    replace ha := Aside0.mk ha
                    have HBr := Aside0.mk Q_HBr
                    have FX := Aside0.mk Q_FX
                    have FY := Aside0.mk Q_FY
                    have SX := Aside0.mk Q_SX
                    have SY := Aside0.mk Q_SY
                    refine value_ (w1 := w') (v := .bool false) ?cA ?cB ?_ ?_
                    case cA => rfl
                    case cB => rfl
                    · go_simp
                      (try simp only [i64_w])
                      try rfl
                    refine hK.out _ _ ⟨B5_, d5_, B6_, d6_, m20_, (by rw [ha.out]; exact putSel_upk 14 hb_ rfl rfl rfl), Q_HBr, Q_FX, Q_FY, Q_SX, Q_SY, fun h0_ => absurd ((hoff 20 (by kernel_rfl)).symm.trans h0_) (by decide), fun h0_ => absurd ((hoff 20 (by kernel_rfl)).symm.trans h0_) (by decide)⟩
                  refine steps_cons ?_ ?_
                  · rintro b a w' ⟨B5_, d5_, B6_, d6_, m20_, ha, Q_HBr, Q_FX, Q_FY, Q_SX, Q_SY, Q_FD, Q_X20_⟩ hb_ hon hoff
                    refine ⟨_, rfl, fun K hK => ?_⟩
                    have e67 : a.tmps[67]? = some (.bool false) := by rw [ha]; exact putSel_on (e := (14, 67, .bool false)) 14 rfl rfl (hon 14 (by kernel_rfl)) rfl
                    replace ha := Aside0.mk ha
                    have HBr := Aside0.mk Q_HBr
                    have FX := Aside0.mk Q_FX
                    have FY := Aside0.mk Q_FY
                    have SX := Aside0.mk Q_SX
                    have SY := Aside0.mk Q_SY
                    refine value_ (w1 := w') (v := .bool false) ?cA ?cB ?_ ?_
                    case cA => rfl
                    case cB => rfl
                    · go_simp
                      (try simp only [i64_w])
                      try rfl
                    refine hK.out _ _ ⟨B5_, d5_, B6_, d6_, m20_, (by rw [ha.out]; exact putSel_upk 15 hb_ rfl rfl rfl), Q_HBr, Q_FX, Q_FY, Q_SX, Q_SY, fun h0_ => absurd ((hoff 20 (by kernel_rfl)).symm.trans h0_) (by decide), fun h0_ => absurd ((hoff 20 (by kernel_rfl)).symm.trans h0_) (by decide)⟩
                  refine steps_cons ?_ ?_
                  · rintro b a w' ⟨B5_, d5_, B6_, d6_, m20_, ha, Q_HBr, Q_FX, Q_FY, Q_SX, Q_SY, Q_FD, Q_X20_⟩ hb_ hon hoff
                    refine ⟨_, rfl, fun K hK => ?_⟩
                    have e8 : a.tmps[8]? = some (.nilIface) := by rw [ha]; exact (putSel_off rfl).trans rfl
                    have e68 : a.tmps[68]? = some (.bool false) := by rw [ha]; exact putSel_on (e := (15, 68, .bool false)) 15 rfl rfl (hon 15 (by kernel_rfl)) rfl
                    replace ha := Aside0.mk ha
                    have HBr := Aside0.mk Q_HBr
                    have FX := Aside0.mk Q_FX
                    have FY := Aside0.mk Q_FY
                    have SX := Aside0.mk Q_SX
                    have SY := Aside0.mk Q_SY
                    refine value_ (w1 := w') (v := .nilIface) (wanted_on rfl rfl rfl (e68.trans (by first | rfl | (simp [*]; done)))) rfl ?_ ?_
                    · go_simp
                      (try simp only [i64_w])
                      try rfl
                    refine hK.out _ _ ⟨B5_, d5_, B6_, d6_, m20_, (by rw [ha.out]; exact putSel_upk 16 hb_ rfl rfl rfl), Q_HBr, Q_FX, Q_FY, Q_SX, Q_SY, fun h0_ => absurd ((hoff 20 (by kernel_rfl)).symm.trans h0_) (by decide), fun h0_ => absurd ((hoff 20 (by kernel_rfl)).symm.trans h0_) (by decide)⟩
                  refine steps_cons ?_ ?_
                  · rintro b a w' ⟨B5_, d5_, B6_, d6_, m20_, ha, Q_HBr, Q_FX, Q_FY, Q_SX, Q_SY, Q_FD, Q_X20_⟩ hb_ hon hoff
                    refine ⟨_, rfl, fun K hK => ?_⟩
                    have e69 : a.tmps[69]? = some (.nilIface) := by rw [ha]; exact putSel_on (e := (16, 69, .nilIface)) 16 rfl rfl (hon 16 (by kernel_rfl)) rfl
                    have e68 : a.tmps[68]? = some (.bool false) := by rw [ha]; exact putSel_on (e := (15, 68, .bool false)) 15 rfl rfl (hon 15 (by kernel_rfl)) rfl
                    replace ha := Aside0.mk ha
                    have HBr := Aside0.mk Q_HBr
                    have FX := Aside0.mk Q_FX
                    have FY := Aside0.mk Q_FY
                    have SX := Aside0.mk Q_SX
                    have SY := Aside0.mk Q_SY
                    refine value_ (w1 := w') (v := .bool true) (wanted_on rfl rfl rfl (e68.trans (by first | rfl | (simp [*]; done)))) rfl ?_ ?_
                    · go_simp
                      (try simp only [i64_w])
                      try rfl
                    refine hK.out _ _ ⟨B5_, d5_, B6_, d6_, m20_, (by rw [ha.out]; exact putSel_upk 17 hb_ rfl rfl rfl), Q_HBr, Q_FX, Q_FY, Q_SX, Q_SY, fun h0_ => absurd ((hoff 20 (by kernel_rfl)).symm.trans h0_) (by decide), fun h0_ => absurd ((hoff 20 (by kernel_rfl)).symm.trans h0_) (by decide)⟩
                  refine steps_cons ?_ ?_
                  · rintro b a w' ⟨B5_, d5_, B6_, d6_, m20_, ha, Q_HBr, Q_FX, Q_FY, Q_SX, Q_SY, Q_FD, Q_X20_⟩ hb_ hon hoff
                    refine ⟨_, rfl, fun K hK => ?_⟩
                    have e70 : a.tmps[70]? = some (.bool true) := by rw [ha]; exact putSel_on (e := (17, 70, .bool true)) 17 rfl rfl (hon 17 (by kernel_rfl)) rfl
                    have e68 : a.tmps[68]? = some (.bool false) := by rw [ha]; exact putSel_on (e := (15, 68, .bool false)) 15 rfl rfl (hon 15 (by kernel_rfl)) rfl
                    replace ha := Aside0.mk ha
                    have HBr := Aside0.mk Q_HBr
                    have FX := Aside0.mk Q_FX
                    have FY := Aside0.mk Q_FY
                    have SX := Aside0.mk Q_SX
                    have SY := Aside0.mk Q_SY
                    refine value_ (w1 := w') (v := .bool true) (wanted_on rfl rfl rfl (e68.trans (by first | rfl | (simp [*]; done)))) rfl ?_ ?_
                    · go_simp
                      (try simp only [i64_w])
                      try rfl
                    refine hK.out _ _ ⟨B5_, d5_, B6_, d6_, m20_, (by rw [ha.out]; exact putSel_upk 18 hb_ rfl rfl rfl), Q_HBr, Q_FX, Q_FY, Q_SX, Q_SY, fun h0_ => absurd ((hoff 20 (by kernel_rfl)).symm.trans h0_) (by decide), fun h0_ => absurd ((hoff 20 (by kernel_rfl)).symm.trans h0_) (by decide)⟩
                  refine steps_cons ?_ ?_
                  · rintro b a w' ⟨B5_, d5_, B6_, d6_, m20_, ha, Q_HBr, Q_FX, Q_FY, Q_SX, Q_SY, Q_FD, Q_X20_⟩ hb_ hon hoff
                    refine ⟨_, rfl, fun K hK => ?_⟩
                    have e7 : a.tmps[7]? = some (.string (encS x)) := by rw [ha]; exact (putSel_off rfl).trans rfl
                    have e71 : a.tmps[71]? = some (.bool true) := by rw [ha]; exact putSel_on (e := (18, 71, .bool true)) 18 rfl rfl (hon 18 (by kernel_rfl)) rfl
                    replace ha := Aside0.mk ha
                    have HBr := Aside0.mk Q_HBr
                    have FX := Aside0.mk Q_FX
                    have FY := Aside0.mk Q_FY
                    have SX := Aside0.mk Q_SX
                    have SY := Aside0.mk Q_SY
                    refine value_ (w1 := w') (v := .string (encS x)) (wanted_on rfl rfl rfl (e71.trans (by first | rfl | (simp [*]; done)))) rfl ?_ ?_
                    · go_simp
                      (try simp only [i64_w])
                      try rfl
                    refine hK.out _ _ ⟨B5_, d5_, B6_, d6_, m20_, (by rw [ha.out]; exact putSel_upk 19 hb_ rfl rfl rfl), Q_HBr, Q_FX, Q_FY, Q_SX, Q_SY, fun h0_ => absurd ((hoff 20 (by kernel_rfl)).symm.trans h0_) (by decide), fun h0_ => absurd ((hoff 20 (by kernel_rfl)).symm.trans h0_) (by decide)⟩
                  refine steps_cons ?_ ?_
                  · rintro b a w' ⟨B5_, d5_, B6_, d6_, m20_, ha, Q_HBr, Q_FX, Q_FY, Q_SX, Q_SY, Q_FD, Q_X20_⟩ hb_ hon hoff
                    refine ⟨_, rfl, fun K hK => ?_⟩
                    have e72 : a.tmps[72]? = some (.string (encS x)) := by rw [ha]; exact putSel_on (e := (19, 72, .string (encS x))) 19 rfl rfl (hon 19 (by kernel_rfl)) rfl
                    have e71 : a.tmps[71]? = some (.bool true) := by rw [ha]; exact putSel_on (e := (18, 71, .bool true)) 18 rfl rfl (hon 18 (by kernel_rfl)) rfl
                    replace ha := Aside0.mk ha
                    have HBr := Aside0.mk Q_HBr
                    have FX := Aside0.mk Q_FX
                    have FY := Aside0.mk Q_FY
                    have SX := Aside0.mk Q_SX
                    have SY := Aside0.mk Q_SY
                    refine goes_ Tryd.func9 (by kernel_rfl) rfl #[.string (encS x)] (wanted_on rfl rfl rfl (e71.trans (by first | rfl | (simp [*]; done)))) rfl rfl (by first | (simp only [List.map_toArray, List.map_cons, List.map_nil, Act.eval, Array.getD_eq_getD_getElem?, Option.getD_some, e72, e71]; done) | (simp only [List.map_toArray, List.map_cons, List.map_nil, Act.eval, Array.getD_eq_getD_getElem?, Option.getD_some, e72, e71]; rfl)) ?_
                    refine (dec_x (encS x) HZX.out x HDX.out x5 x6 HN5.out HN6.out w').mono ?_
                    rintro e w1 ⟨b5z_, d5z_, b6z_, d6z_, rfl, hS_, hb1⟩
                    refine ⟨_, rfl, ?_⟩
                    refine hK.out _ _ ⟨b5z_, d5z_, b6z_, d6z_, (.agg #[.int .i64 x.f0.f0, .int .i64 x.f0.f1, .int .i64 x.f0.f2, .int .i64 x.f0.f3, .int .i64 x.f0.f4, .slice b5z_ x5 d5z_, .slice b6z_ x6 d6z_]), (by rw [ha.out]; exact putSel_upk 20 hb_ rfl rfl rfl), below_step HBr.out hb1, blk_below hb1 FX.out, blk_below hb1 FY.out, SV_below SX.out hb1, SV_below SY.out hb1, fun _ => hS_, fun _ => rfl⟩
                  refine steps_cons ?_ ?_
                  · rintro b a w' ⟨B5_, d5_, B6_, d6_, m20_, ha, Q_HBr, Q_FX, Q_FY, Q_SX, Q_SY, Q_FD, Q_X20_⟩ hb_ hon hoff
                    refine ⟨_, rfl, fun K hK => ?_⟩
                    have e3 : a.tmps[3]? = some (.pointer (some ⟨xb, 0, none⟩)) := by rw [ha]; exact (putSel_off rfl).trans rfl
                    have e71 : a.tmps[71]? = some (.bool true) := by rw [ha]; exact putSel_on (e := (18, 71, .bool true)) 18 rfl rfl (hon 18 (by kernel_rfl)) rfl
                    replace ha := Aside0.mk ha
                    have HBr := Aside0.mk Q_HBr
                    have FX := Aside0.mk Q_FX
                    have FY := Aside0.mk Q_FY
                    have SX := Aside0.mk Q_SX
                    have SY := Aside0.mk Q_SY
                    have z0_ : w'.cell? ⟨xb, 0, none⟩ = some (.int .i64 x.f0.f0) := (blk_cell (FX.out) 0).trans rfl
                    have z1_ : w'.cell? ⟨xb, 1, none⟩ = some (.int .i64 x.f0.f1) := (blk_cell (FX.out) 1).trans rfl
                    have z2_ : w'.cell? ⟨xb, 2, none⟩ = some (.int .i64 x.f0.f2) := (blk_cell (FX.out) 2).trans rfl
                    have z3_ : w'.cell? ⟨xb, 3, none⟩ = some (.int .i64 x.f0.f3) := (blk_cell (FX.out) 3).trans rfl
                    have z4_ : w'.cell? ⟨xb, 4, none⟩ = some (.int .i64 x.f0.f4) := (blk_cell (FX.out) 4).trans rfl
                    have z5_ : w'.cell? ⟨xb, 5, none⟩ = some (.slice A5 x5 c5) := (blk_cell (FX.out) 5).trans rfl
                    have z6_ : w'.cell? ⟨xb, 6, none⟩ = some (.slice A6 x6 c6) := (blk_cell (FX.out) 6).trans rfl
                    refine value_ (w1 := w') (v := .agg #[.int .i64 x.f0.f0, .int .i64 x.f0.f1, .int .i64 x.f0.f2, .int .i64 x.f0.f3, .int .i64 x.f0.f4, .slice A5 x5 c5, .slice A6 x6 c6]) (wanted_on rfl rfl rfl (e71.trans (by first | rfl | (simp [*]; done)))) rfl ?_ ?_
                    · go_simp
                      (try simp only [i64_w])
                      try rfl
                    refine hK.out _ _ ⟨B5_, d5_, B6_, d6_, m20_, (by rw [ha.out]; exact putSel_upk 21 hb_ rfl rfl rfl), Q_HBr, Q_FX, Q_FY, Q_SX, Q_SY, Q_FD, Q_X20_⟩
                  refine steps_cons ?_ ?_
                  · rintro b a w' ⟨B5_, d5_, B6_, d6_, m20_, ha, Q_HBr, Q_FX, Q_FY, Q_SX, Q_SY, Q_FD, Q_X20_⟩ hb_ hon hoff
                    refine ⟨_, rfl, fun K hK => ?_⟩
                    have e73 : a.tmps[73]? = some (m20_) := by rw [ha]; exact putSel_on (e := (20, 73, m20_)) 20 rfl rfl (hon 20 (by kernel_rfl)) rfl
                    rw [Q_X20_ (hon 20 (by kernel_rfl))] at e73
                    have e74 : a.tmps[74]? = some (.agg #[.int .i64 x.f0.f0, .int .i64 x.f0.f1, .int .i64 x.f0.f2, .int .i64 x.f0.f3, .int .i64 x.f0.f4, .slice A5 x5 c5, .slice A6 x6 c6]) := by rw [ha]; exact putSel_on (e := (21, 74, .agg #[.int .i64 x.f0.f0, .int .i64 x.f0.f1, .int .i64 x.f0.f2, .int .i64 x.f0.f3, .int .i64 x.f0.f4, .slice A5 x5 c5, .slice A6 x6 c6])) 21 rfl rfl (hon 21 (by kernel_rfl)) rfl
                    have e71 : a.tmps[71]? = some (.bool true) := by rw [ha]; exact putSel_on (e := (18, 71, .bool true)) 18 rfl rfl (hon 18 (by kernel_rfl)) rfl
                    replace ha := Aside0.mk ha
                    have HBr := Aside0.mk Q_HBr
                    have FX := Aside0.mk Q_FX
                    have FY := Aside0.mk Q_FY
                    have SX := Aside0.mk Q_SX
                    have SY := Aside0.mk Q_SY
                    have FD := Aside0.mk (Q_FD (hon 20 (by kernel_rfl)))
                    refine goes_ Tryd.func12 (by kernel_rfl) rfl #[.agg #[.int .i64 x.f0.f0, .int .i64 x.f0.f1, .int .i64 x.f0.f2, .int .i64 x.f0.f3, .int .i64 x.f0.f4, .slice B5_ x5 d5_, .slice B6_ x6 d6_], .agg #[.int .i64 x.f0.f0, .int .i64 x.f0.f1, .int .i64 x.f0.f2, .int .i64 x.f0.f3, .int .i64 x.f0.f4, .slice A5 x5 c5, .slice A6 x6 c6]] (wanted_on rfl rfl rfl (e71.trans (by first | rfl | (simp [*]; done)))) rfl rfl (by first | (simp only [List.map_toArray, List.map_cons, List.map_nil, Act.eval, Array.getD_eq_getD_getElem?, Option.getD_some, e73, e74, e71]; done) | (simp only [List.map_toArray, List.map_cons, List.map_nil, Act.eval, Array.getD_eq_getD_getElem?, Option.getD_some, e73, e74, e71]; rfl)) ?_
                    refine (same_c FD.out SX.out).mono ?_
                    rintro e w1 ⟨hr_, hb1⟩
                    rw [sameB_self] at hr_
                    subst hr_
                    refine ⟨_, rfl, ?_⟩
                    refine hK.out _ _ ⟨B5_, d5_, B6_, d6_, m20_, (by rw [ha.out]; exact putSel_upk 22 hb_ rfl rfl rfl), below_step HBr.out hb1, blk_below hb1 FX.out, blk_below hb1 FY.out, SV_below SX.out hb1, SV_below SY.out hb1, fun _ => SV_below FD.out hb1, Q_X20_⟩
                  refine steps_cons ?_ ?_
                  · rintro b a w' ⟨B5_, d5_, B6_, d6_, m20_, ha, Q_HBr, Q_FX, Q_FY, Q_SX, Q_SY, Q_FD, Q_X20_⟩ hb_ hon hoff
                    refine ⟨_, rfl, fun K hK => ?_⟩
                    have e75 : a.tmps[75]? = some (.bool true) := by rw [ha]; exact putSel_on (e := (22, 75, .bool true)) 22 rfl rfl (hon 22 (by kernel_rfl)) rfl
                    have e71 : a.tmps[71]? = some (.bool true) := by rw [ha]; exact putSel_on (e := (18, 71, .bool true)) 18 rfl rfl (hon 18 (by kernel_rfl)) rfl
                    replace ha := Aside0.mk ha
                    have HBr := Aside0.mk Q_HBr
                    have FX := Aside0.mk Q_FX
                    have FY := Aside0.mk Q_FY
                    have SX := Aside0.mk Q_SX
                    have SY := Aside0.mk Q_SY
                    have FD := Aside0.mk (Q_FD (hon 20 (by kernel_rfl)))
                    refine value_ (w1 := w') (v := .bool false) (wanted_on rfl rfl rfl (e71.trans (by first | rfl | (simp [*]; done)))) rfl ?_ ?_
                    · go_simp
                      (try simp only [i64_w])
                      try rfl
                    refine hK.out _ _ ⟨B5_, d5_, B6_, d6_, m20_, (by rw [ha.out]; exact putSel_upk 23 hb_ rfl rfl rfl), Q_HBr, Q_FX, Q_FY, Q_SX, Q_SY, Q_FD, Q_X20_⟩
                  refine steps_cons ?_ ?_
                  · rintro b a w' ⟨B5_, d5_, B6_, d6_, m20_, ha, Q_HBr, Q_FX, Q_FY, Q_SX, Q_SY, Q_FD, Q_X20_⟩ hb_ hon hoff
                    refine ⟨_, rfl, fun K hK => ?_⟩
                    have e71 : a.tmps[71]? = some (.bool true) := by rw [ha]; exact putSel_on (e := (18, 71, .bool true)) 18 rfl rfl (hon 18 (by kernel_rfl)) rfl
                    have e76 : a.tmps[76]? = some (.bool false) := by rw [ha]; exact putSel_on (e := (23, 76, .bool false)) 23 rfl rfl (hon 23 (by kernel_rfl)) rfl
                    have e68 : a.tmps[68]? = some (.bool false) := by rw [ha]; exact putSel_on (e := (15, 68, .bool false)) 15 rfl rfl (hon 15 (by kernel_rfl)) rfl
                    replace ha := Aside0.mk ha
                    have HBr := Aside0.mk Q_HBr
                    have FX := Aside0.mk Q_FX
                    have FY := Aside0.mk Q_FY
                    have SX := Aside0.mk Q_SX
                    have SY := Aside0.mk Q_SY
                    have FD := Aside0.mk (Q_FD (hon 20 (by kernel_rfl)))
                    refine value_ (w1 := w') (v := .bool false) (wanted_on rfl rfl rfl (e68.trans (by first | rfl | (simp [*]; done)))) rfl ?_ ?_
                    · go_simp
                      (try simp only [i64_w])
                      try rfl
                    refine hK.out _ _ ⟨B5_, d5_, B6_, d6_, m20_, (by rw [ha.out]; exact putSel_upk 24 hb_ rfl rfl rfl), Q_HBr, Q_FX, Q_FY, Q_SX, Q_SY, Q_FD, Q_X20_⟩
                  refine steps_cons ?_ ?_
                  · rintro b a w' ⟨B5_, d5_, B6_, d6_, m20_, ha, Q_HBr, Q_FX, Q_FY, Q_SX, Q_SY, Q_FD, Q_X20_⟩ hb_ hon hoff
                    refine ⟨_, rfl, fun K hK => ?_⟩
                    have e68 : a.tmps[68]? = some (.bool false) := by rw [ha]; exact putSel_on (e := (15, 68, .bool false)) 15 rfl rfl (hon 15 (by kernel_rfl)) rfl
                    have e77 : a.tmps[77]? = some (.bool false) := by rw [ha]; exact putSel_on (e := (24, 77, .bool false)) 24 rfl rfl (hon 24 (by kernel_rfl)) rfl
                    replace ha := Aside0.mk ha
                    have HBr := Aside0.mk Q_HBr
                    have FX := Aside0.mk Q_FX
                    have FY := Aside0.mk Q_FY
                    have SX := Aside0.mk Q_SX
                    have SY := Aside0.mk Q_SY
                    have FD := Aside0.mk (Q_FD (hon 20 (by kernel_rfl)))
                    refine value_ (w1 := w') (v := .bool false) ?cA ?cB ?_ ?_
                    case cA => rfl
                    case cB => rfl
                    · go_simp
                      (try simp only [i64_w])
                      try rfl
                    refine hK.out _ _ ⟨B5_, d5_, B6_, d6_, m20_, (by rw [ha.out]; exact putSel_upk 25 hb_ rfl rfl rfl), Q_HBr, Q_FX, Q_FY, Q_SX, Q_SY, Q_FD, Q_X20_⟩
                  exact steps_nil
                rintro b a w' hall ⟨B5_, d5_, B6_, d6_, m20_, ha, Q_HBr, Q_FX, Q_FY, Q_SX, Q_SY, Q_FD, Q_X20_⟩
                clear FX FY HBr SX SY
                have hb0_ := hall 0 (by kernel_rfl)
                have hb1_ := hall 1 (by kernel_rfl)
                have hb2_ := hall 2 (by kernel_rfl)
                have hb3_ := hall 3 (by kernel_rfl)
                have hb4_ := hall 4 (by kernel_rfl)
                have hb5_ := hall 5 (by kernel_rfl)
                have hb6_ := hall 6 (by kernel_rfl)
                have hb7_ := hall 7 (by kernel_rfl)
                have hb8_ := hall 8 (by kernel_rfl)
                have hb9_ := hall 9 (by kernel_rfl)
                have hb10_ := hall 10 (by kernel_rfl)
                have hb11_ := hall 11 (by kernel_rfl)
                have hb12_ := hall 12 (by kernel_rfl)
                have hb13_ := hall 13 (by kernel_rfl)
                have hb14_ := hall 14 (by kernel_rfl)
                have hb15_ := hall 15 (by kernel_rfl)
                have hb16_ := hall 16 (by kernel_rfl)
                have hb17_ := hall 17 (by kernel_rfl)
                have hb18_ := hall 18 (by kernel_rfl)
                have hb19_ := hall 19 (by kernel_rfl)
                have hb20_ := hall 20 (by kernel_rfl)
                have hb21_ := hall 21 (by kernel_rfl)
                have hb22_ := hall 22 (by kernel_rfl)
                have hb23_ := hall 23 (by kernel_rfl)
                have hb24_ := hall 24 (by kernel_rfl)
                have hb25_ := hall 25 (by kernel_rfl)
                subst ha
                obtain rfl := Q_X20_ hb20_
                simp only [putSel, hb0_, hb1_, hb2_, hb3_, hb4_, hb5_, hb6_, hb7_, hb8_, hb9_, hb10_, hb11_, hb12_, hb13_, hb14_, hb15_, hb16_, hb17_, hb18_, hb19_, hb20_, hb21_, hb22_, hb23_, hb24_, hb25_, if_true, Act.put, List.setIfInBounds_toArray, List.set_cons_zero, List.set_cons_succ]
                have HBr := Aside0.mk Q_HBr
                clear Q_HBr
                have FX := Aside0.mk Q_FX
                clear Q_FX
                have FY := Aside0.mk Q_FY
                clear Q_FY
                have SX := Aside0.mk Q_SX
                clear Q_SX
                have SY := Aside0.mk Q_SY
                clear Q_SY
                have FD := Aside0.mk (Q_FD hb20_)
                clear Q_FD
                clear hall hb0_ hb1_ hb2_ hb3_ hb4_ hb5_ hb6_ hb7_ hb8_ hb9_ hb10_ hb11_ hb12_ hb13_ hb14_ hb15_ hb16_ hb17_ hb18_ hb19_ hb20_ hb21_ hb22_ hb23_ hb24_ hb25_
                replace HB := HBr
                go_wp2_with fail
                obtain ⟨z, hz⟩ : ∃ z, z = dec s := ⟨_, rfl⟩
                obtain ⟨z5, hz5⟩ : ∃ n, n = z.f1.length := ⟨_, rfl⟩
                obtain ⟨z6, hz6⟩ : ∃ n, n = z.f2.length := ⟨_, rfl⟩
                have hez : encB z = true := by rw [hz]; exact enc_dec s
                have HZZ : Aside0 ((encS z).size ≤ 40000) := Aside0.mk (by rw [encS_size]; have := (good_conf (enc_parts hez).1).2.1; have := (good_conf (enc_parts hez).1).2.2.1; omega)
                have HDZ : Aside0 (z = dec (encS z)) := Aside0.mk (dec_back hez).symm
                have HL5 : Aside0 (z5 ≤ 64) := Aside0.mk (by rw [hz5]; exact (good_conf (enc_parts hez).1).2.1)
                have HL6 : Aside0 (z6 ≤ 4096) := Aside0.mk (by rw [hz6]; exact (good_conf (enc_parts hez).1).2.2.1)
                have HSZ : Aside0 (((encS z).size : Int) = 6 + 4 * (z5 : Int) + (z6 : Int)) := Aside0.mk (by rw [encS_size, ← hz5, ← hz6]; omega)
                have HEZ := Aside0.mk hez
                have HZ5 := Aside0.mk hz5
                have HZ6 := Aside0.mk hz6
                clear hez
                refine (dec_x s (by omega) z hz z5 z6 hz5 hz6 _).mono ?_
                rintro e w5 ⟨E5, h5, E6, h6, rfl, hS, hb⟩
                clear hz hz5 hz6
                have hb1 := below_alloc (Below.refl w5.heap.size w5) (.cells #[.int .i64 z.f0.f0, .int .i64 z.f0.f1, .int .i64 z.f0.f2, .int .i64 z.f0.f3, .int .i64 z.f0.f4, .slice E5 z5 h5, .slice E6 z6 h6] 28)
                have FZ := Aside0.mk (blk_new w5 (.cells #[.int .i64 z.f0.f0, .int .i64 z.f0.f1, .int .i64 z.f0.f2, .int .i64 z.f0.f3, .int .i64 z.f0.f4, .slice E5 z5 h5, .slice E6 z6 h6] 28))
                have SZ := Aside0.mk (SV_below hS hb1)
                replace HB := Aside0.mk (below_step (below_step HB.out hb) hb1)
                clear hb hb1 hS FX FY SX SY
                go_wp2_with fail
                refine (enc_s HEZ.out SZ.out aA (pw_cell_below HB.out HA.out)).mono ?_
                rintro e w6 ⟨rfl, hb⟩
                replace FZ := Aside0.mk (blk_below hb FZ.out)
                replace SZ := Aside0.mk (SV_below SZ.out hb)
                replace HB := Aside0.mk (below_step HB.out hb)
                clear hb
                obtain ⟨zb, hzb⟩ : ∃ n, n = w5.heap.size := ⟨_, rfl⟩
                rw [← hzb] at FZ ⊢
                clear hzb
                go_wp2
                refine start_ (n := 23) (S := fun w' => True) (ds := []) #[false, false, false, false, false, false, false, false, false, false, false, false, false, false, false, false, false, false, false, false, false, false, false] (by kernel_rfl) rfl rfl trivial (fun hHeld => ?_)
                refine with_tabW backd.tab11 backd.bits11 (fun HT_ HW_ => ?_)
                have HBr := Aside0.mk (below_drew1 HB.out)
                refine inv_at [0, 1, 2, 3, 4, 5, 6, 7, 8, 9, 10, 11, 12, 13, 14, 15, 16, 17, 18, 19, 20, 21, 22] (fun a0_ b a w' => ∃ (B5_ : Option Addr) (d5_ : Nat) (B6_ : Option Addr) (d6_ : Nat) (m4_ : Value), a = putSel a0_ b [(0, 86, .nilIface), (1, 87, .bool true), (2, 88, .bool true), (3, 89, .string (encS z)), (4, 90, m4_), (5, 91, .agg #[.int .i64 z.f0.f0, .int .i64 z.f0.f1, .int .i64 z.f0.f2, .int .i64 z.f0.f3, .int .i64 z.f0.f4, .slice E5 z5 h5, .slice E6 z6 h6]), (6, 92, .bool true), (7, 93, .bool true), (8, 94, .bool true), (9, 95, .string (encS z)), (10, 96, .int .i64 (6 + 4 * (z5 : Int) + (z6 : Int))), (11, 97, .pointer (some ⟨zb, 5, none⟩)), (12, 98, .slice E5 z5 h5), (13, 99, .int .i64 (z5 : Int)), (14, 100, .int .i64 (4 * (z5 : Int))), (15, 101, .int .i64 (6 + 4 * (z5 : Int))), (16, 102, .pointer (some ⟨zb, 6, none⟩)), (17, 103, .slice E6 z6 h6), (18, 104, .int .i64 (z6 : Int)), (19, 105, .int .i64 (6 + 4 * (z5 : Int) + (z6 : Int))), (20, 106, .bool true), (21, 107, .bool true), (22, 6, .bool true)] ∧ (Below w.heap.size w w') ∧ (w'.heap[zb]? = some (.cells #[.int .i64 z.f0.f0, .int .i64 z.f0.f1, .int .i64 z.f0.f2, .int .i64 z.f0.f3, .int .i64 z.f0.f4, .slice E5 z5 h5, .slice E6 z6 h6] 28 (0, 0))) ∧ (SV w' z (.agg #[.int .i64 z.f0.f0, .int .i64 z.f0.f1, .int .i64 z.f0.f2, .int .i64 z.f0.f3, .int .i64 z.f0.f4, .slice E5 z5 h5, .slice E6 z6 h6])) ∧ (b 4 = true → SV w' z (.agg #[.int .i64 z.f0.f0, .int .i64 z.f0.f1, .int .i64 z.f0.f2, .int .i64 z.f0.f3, .int .i64 z.f0.f4, .slice B5_ z5 d5_, .slice B6_ z6 d6_])) ∧ (b 4 = true → (m4_ : Value) = .agg #[.int .i64 z.f0.f0, .int .i64 z.f0.f1, .int .i64 z.f0.f2, .int .i64 z.f0.f3, .int .i64 z.f0.f4, .slice B5_ z5 d5_, .slice B6_ z6 d6_])) HT_.out HW_.out (by kernel_rfl) (by kernel_rfl) ?_ ?_ ?_
                · exact ⟨none, 0, none, 0, .bool false, by simp only [putSel, Bool.false_eq_true, if_false], HBr.out, FZ.out, SV_below SZ.out (below_drew (Below.refl _ _)), fun h_ => absurd h_ (by decide), fun h_ => absurd h_ (by decide)⟩
                · skip
                  clear FZ HBr SZ
                  refine steps_cons ?_ ?_
                  · rintro b a w' ⟨B5_, d5_, B6_, d6_, m4_, ha, Q_HBr, Q_FZ, Q_SZ, Q_FD, Q_X4_⟩ hb_ hon hoff
                    refine ⟨_, rfl, fun K hK => ?_⟩
                    have e13 : a.tmps[13]? = some (.nilIface) := by rw [ha]; exact (putSel_off rfl).trans rfl
                    replace ha := Aside0.mk ha
                    have HBr := Aside0.mk Q_HBr
                    have FZ := Aside0.mk Q_FZ
                    have SZ := Aside0.mk Q_SZ
                    refine value_ (w1 := w') (v := .nilIface) ?cA ?cB ?_ ?_
                    case cA => rfl
                    case cB => rfl
                    · go_simp
                      (try simp only [i64_w])
                      (try (unfold wrap64; omega))
                      try rfl
                    refine hK.out _ _ ⟨B5_, d5_, B6_, d6_, m4_, (by rw [ha.out]; exact putSel_upk 0 hb_ rfl rfl rfl), Q_HBr, Q_FZ, Q_SZ, fun h0_ => absurd ((hoff 4 (by kernel_rfl)).symm.trans h0_) (by decide), fun h0_ => absurd ((hoff 4 (by kernel_rfl)).symm.trans h0_) (by decide)⟩
                  refine steps_cons ?_ ?_
                  · rintro b a w' ⟨B5_, d5_, B6_, d6_, m4_, ha, Q_HBr, Q_FZ, Q_SZ, Q_FD, Q_X4_⟩ hb_ hon hoff
                    refine ⟨_, rfl, fun K hK => ?_⟩
                    have e86 : a.tmps[86]? = some (.nilIface) := by rw [ha]; exact putSel_on (e := (0, 86, .nilIface)) 0 rfl rfl (hon 0 (by kernel_rfl)) rfl
                    replace ha := Aside0.mk ha
                    have HBr := Aside0.mk Q_HBr
                    have FZ := Aside0.mk Q_FZ
                    have SZ := Aside0.mk Q_SZ
                    refine value_ (w1 := w') (v := .bool true) ?cA ?cB ?_ ?_
                    case cA => rfl
                    case cB => rfl
                    · go_simp
                      (try simp only [i64_w])
                      (try (unfold wrap64; omega))
                      try rfl
                    refine hK.out _ _ ⟨B5_, d5_, B6_, d6_, m4_, (by rw [ha.out]; exact putSel_upk 1 hb_ rfl rfl rfl), Q_HBr, Q_FZ, Q_SZ, fun h0_ => absurd ((hoff 4 (by kernel_rfl)).symm.trans h0_) (by decide), fun h0_ => absurd ((hoff 4 (by kernel_rfl)).symm.trans h0_) (by decide)⟩
                  refine steps_cons ?_ ?_
                  · rintro b a w' ⟨B5_, d5_, B6_, d6_, m4_, ha, Q_HBr, Q_FZ, Q_SZ, Q_FD, Q_X4_⟩ hb_ hon hoff
                    refine ⟨_, rfl, fun K hK => ?_⟩
                    have e87 : a.tmps[87]? = some (.bool true) := by rw [ha]; exact putSel_on (e := (1, 87, .bool true)) 1 rfl rfl (hon 1 (by kernel_rfl)) rfl
                    replace ha := Aside0.mk ha
                    have HBr := Aside0.mk Q_HBr
                    have FZ := Aside0.mk Q_FZ
                    have SZ := Aside0.mk Q_SZ
                    refine value_ (w1 := w') (v := .bool true) ?cA ?cB ?_ ?_
                    case cA => rfl
                    case cB => rfl
                    · go_simp
                      (try simp only [i64_w])
                      (try (unfold wrap64; omega))
                      try rfl
                    refine hK.out _ _ ⟨B5_, d5_, B6_, d6_, m4_, (by rw [ha.out]; exact putSel_upk 2 hb_ rfl rfl rfl), Q_HBr, Q_FZ, Q_SZ, fun h0_ => absurd ((hoff 4 (by kernel_rfl)).symm.trans h0_) (by decide), fun h0_ => absurd ((hoff 4 (by kernel_rfl)).symm.trans h0_) (by decide)⟩
                  refine steps_cons ?_ ?_
                  · rintro b a w' ⟨B5_, d5_, B6_, d6_, m4_, ha, Q_HBr, Q_FZ, Q_SZ, Q_FD, Q_X4_⟩ hb_ hon hoff
                    refine ⟨_, rfl, fun K hK => ?_⟩
                    have e12 : a.tmps[12]? = some (.string (encS z)) := by rw [ha]; exact (putSel_off rfl).trans rfl
                    have e88 : a.tmps[88]? = some (.bool true) := by rw [ha]; exact putSel_on (e := (2, 88, .bool true)) 2 rfl rfl (hon 2 (by kernel_rfl)) rfl
                    replace ha := Aside0.mk ha
                    have HBr := Aside0.mk Q_HBr
                    have FZ := Aside0.mk Q_FZ
                    have SZ := Aside0.mk Q_SZ
                    refine value_ (w1 := w') (v := .string (encS z)) (wanted_on rfl rfl rfl (e88.trans (by first | rfl | (simp [*]; done)))) rfl ?_ ?_
                    · go_simp
                      (try simp only [i64_w])
                      (try (unfold wrap64; omega))
                      try rfl
                    refine hK.out _ _ ⟨B5_, d5_, B6_, d6_, m4_, (by rw [ha.out]; exact putSel_upk 3 hb_ rfl rfl rfl), Q_HBr, Q_FZ, Q_SZ, fun h0_ => absurd ((hoff 4 (by kernel_rfl)).symm.trans h0_) (by decide), fun h0_ => absurd ((hoff 4 (by kernel_rfl)).symm.trans h0_) (by decide)⟩
                  refine steps_cons ?_ ?_
                  · rintro b a w' ⟨B5_, d5_, B6_, d6_, m4_, ha, Q_HBr, Q_FZ, Q_SZ, Q_FD, Q_X4_⟩ hb_ hon hoff
                    refine ⟨_, rfl, fun K hK => ?_⟩
                    have e89 : a.tmps[89]? = some (.string (encS z)) := by rw [ha]; exact putSel_on (e := (3, 89, .string (encS z))) 3 rfl rfl (hon 3 (by kernel_rfl)) rfl
                    have e88 : a.tmps[88]? = some (.bool true) := by rw [ha]; exact putSel_on (e := (2, 88, .bool true)) 2 rfl rfl (hon 2 (by kernel_rfl)) rfl
                    replace ha := Aside0.mk ha
                    have HBr := Aside0.mk Q_HBr
                    have FZ := Aside0.mk Q_FZ
                    have SZ := Aside0.mk Q_SZ
                    refine goes_ Tryd.func9 (by kernel_rfl) rfl #[.string (encS z)] (wanted_on rfl rfl rfl (e88.trans (by first | rfl | (simp [*]; done)))) rfl rfl (by first | (simp only [List.map_toArray, List.map_cons, List.map_nil, Act.eval, Array.getD_eq_getD_getElem?, Option.getD_some, e89, e88]; done) | (simp only [List.map_toArray, List.map_cons, List.map_nil, Act.eval, Array.getD_eq_getD_getElem?, Option.getD_some, e89, e88]; rfl)) ?_
                    refine (dec_x (encS z) HZZ.out z HDZ.out z5 z6 HZ5.out HZ6.out w').mono ?_
                    rintro e w1 ⟨b5z_, d5z_, b6z_, d6z_, rfl, hS_, hb1⟩
                    refine ⟨_, rfl, ?_⟩
                    refine hK.out _ _ ⟨b5z_, d5z_, b6z_, d6z_, (.agg #[.int .i64 z.f0.f0, .int .i64 z.f0.f1, .int .i64 z.f0.f2, .int .i64 z.f0.f3, .int .i64 z.f0.f4, .slice b5z_ z5 d5z_, .slice b6z_ z6 d6z_]), (by rw [ha.out]; exact putSel_upk 4 hb_ rfl rfl rfl), below_step HBr.out hb1, blk_below hb1 FZ.out, SV_below SZ.out hb1, fun _ => hS_, fun _ => rfl⟩
                  refine steps_cons ?_ ?_
                  · rintro b a w' ⟨B5_, d5_, B6_, d6_, m4_, ha, Q_HBr, Q_FZ, Q_SZ, Q_FD, Q_X4_⟩ hb_ hon hoff
                    refine ⟨_, rfl, fun K hK => ?_⟩
                    have e11 : a.tmps[11]? = some (.pointer (some ⟨zb, 0, none⟩)) := by rw [ha]; exact (putSel_off rfl).trans rfl
                    have e88 : a.tmps[88]? = some (.bool true) := by rw [ha]; exact putSel_on (e := (2, 88, .bool true)) 2 rfl rfl (hon 2 (by kernel_rfl)) rfl
                    replace ha := Aside0.mk ha
                    have HBr := Aside0.mk Q_HBr
                    have FZ := Aside0.mk Q_FZ
                    have SZ := Aside0.mk Q_SZ
                    have z0_ : w'.cell? ⟨zb, 0, none⟩ = some (.int .i64 z.f0.f0) := (blk_cell (FZ.out) 0).trans rfl
                    have z1_ : w'.cell? ⟨zb, 1, none⟩ = some (.int .i64 z.f0.f1) := (blk_cell (FZ.out) 1).trans rfl
                    have z2_ : w'.cell? ⟨zb, 2, none⟩ = some (.int .i64 z.f0.f2) := (blk_cell (FZ.out) 2).trans rfl
                    have z3_ : w'.cell? ⟨zb, 3, none⟩ = some (.int .i64 z.f0.f3) := (blk_cell (FZ.out) 3).trans rfl
                    have z4_ : w'.cell? ⟨zb, 4, none⟩ = some (.int .i64 z.f0.f4) := (blk_cell (FZ.out) 4).trans rfl
                    have z5_ : w'.cell? ⟨zb, 5, none⟩ = some (.slice E5 z5 h5) := (blk_cell (FZ.out) 5).trans rfl
                    have z6_ : w'.cell? ⟨zb, 6, none⟩ = some (.slice E6 z6 h6) := (blk_cell (FZ.out) 6).trans rfl
                    refine value_ (w1 := w') (v := .agg #[.int .i64 z.f0.f0, .int .i64 z.f0.f1, .int .i64 z.f0.f2, .int .i64 z.f0.f3, .int .i64 z.f0.f4, .slice E5 z5 h5, .slice E6 z6 h6]) (wanted_on rfl rfl rfl (e88.trans (by first | rfl | (simp [*]; done)))) rfl ?_ ?_
                    · go_simp
                      (try simp only [i64_w])
                      (try (unfold wrap64; omega))
                      try rfl
                    refine hK.out _ _ ⟨B5_, d5_, B6_, d6_, m4_, (by rw [ha.out]; exact putSel_upk 5 hb_ rfl rfl rfl), Q_HBr, Q_FZ, Q_SZ, Q_FD, Q_X4_⟩
                  refine steps_cons ?_ ?_
                  · rintro b a w' ⟨B5_, d5_, B6_, d6_, m4_, ha, Q_HBr, Q_FZ, Q_SZ, Q_FD, Q_X4_⟩ hb_ hon hoff
                    refine ⟨_, rfl, fun K hK => ?_⟩
                    have e90 : a.tmps[90]? = some (m4_) := by rw [ha]; exact putSel_on (e := (4, 90, m4_)) 4 rfl rfl (hon 4 (by kernel_rfl)) rfl
                    rw [Q_X4_ (hon 4 (by kernel_rfl))] at e90
                    have e91 : a.tmps[91]? = some (.agg #[.int .i64 z.f0.f0, .int .i64 z.f0.f1, .int .i64 z.f0.f2, .int .i64 z.f0.f3, .int .i64 z.f0.f4, .slice E5 z5 h5, .slice E6 z6 h6]) := by rw [ha]; exact putSel_on (e := (5, 91, .agg #[.int .i64 z.f0.f0, .int .i64 z.f0.f1, .int .i64 z.f0.f2, .int .i64 z.f0.f3, .int .i64 z.f0.f4, .slice E5 z5 h5, .slice E6 z6 h6])) 5 rfl rfl (hon 5 (by kernel_rfl)) rfl
                    have e88 : a.tmps[88]? = some (.bool true) := by rw [ha]; exact putSel_on (e := (2, 88, .bool true)) 2 rfl rfl (hon 2 (by kernel_rfl)) rfl
                    replace ha := Aside0.mk ha
                    have HBr := Aside0.mk Q_HBr
                    have FZ := Aside0.mk Q_FZ
                    have SZ := Aside0.mk Q_SZ
                    have FD := Aside0.mk (Q_FD (hon 4 (by kernel_rfl)))
                    refine goes_ Tryd.func12 (by kernel_rfl) rfl #[.agg #[.int .i64 z.f0.f0, .int .i64 z.f0.f1, .int .i64 z.f0.f2, .int .i64 z.f0.f3, .int .i64 z.f0.f4, .slice B5_ z5 d5_, .slice B6_ z6 d6_], .agg #[.int .i64 z.f0.f0, .int .i64 z.f0.f1, .int .i64 z.f0.f2, .int .i64 z.f0.f3, .int .i64 z.f0.f4, .slice E5 z5 h5, .slice E6 z6 h6]] (wanted_on rfl rfl rfl (e88.trans (by first | rfl | (simp [*]; done)))) rfl rfl (by first | (simp only [List.map_toArray, List.map_cons, List.map_nil, Act.eval, Array.getD_eq_getD_getElem?, Option.getD_some, e90, e91, e88]; done) | (simp only [List.map_toArray, List.map_cons, List.map_nil, Act.eval, Array.getD_eq_getD_getElem?, Option.getD_some, e90, e91, e88]; rfl)) ?_
                    refine (same_c FD.out SZ.out).mono ?_
                    rintro e w1 ⟨hr_, hb1⟩
                    rw [sameB_self] at hr_
                    subst hr_
                    refine ⟨_, rfl, ?_⟩
                    refine hK.out _ _ ⟨B5_, d5_, B6_, d6_, m4_, (by rw [ha.out]; exact putSel_upk 6 hb_ rfl rfl rfl), below_step HBr.out hb1, blk_below hb1 FZ.out, SV_below SZ.out hb1, fun _ => SV_below FD.out hb1, Q_X4_⟩
                  refine steps_cons ?_ ?_
                  · rintro b a w' ⟨B5_, d5_, B6_, d6_, m4_, ha, Q_HBr, Q_FZ, Q_SZ, Q_FD, Q_X4_⟩ hb_ hon hoff
                    refine ⟨_, rfl, fun K hK => ?_⟩
                    have e88 : a.tmps[88]? = some (.bool true) := by rw [ha]; exact putSel_on (e := (2, 88, .bool true)) 2 rfl rfl (hon 2 (by kernel_rfl)) rfl
                    have e92 : a.tmps[92]? = some (.bool true) := by rw [ha]; exact putSel_on (e := (6, 92, .bool true)) 6 rfl rfl (hon 6 (by kernel_rfl)) rfl
                    replace ha := Aside0.mk ha
                    have HBr := Aside0.mk Q_HBr
                    have FZ := Aside0.mk Q_FZ
                    have SZ := Aside0.mk Q_SZ
                    have FD := Aside0.mk (Q_FD (hon 4 (by kernel_rfl)))
                    refine value_ (w1 := w') (v := .bool true) ?cA ?cB ?_ ?_
                    case cA => rfl
                    case cB => rfl
                    · go_simp
                      (try simp only [i64_w])
                      (try (unfold wrap64; omega))
                      try rfl
                    refine hK.out _ _ ⟨B5_, d5_, B6_, d6_, m4_, (by rw [ha.out]; exact putSel_upk 7 hb_ rfl rfl rfl), Q_HBr, Q_FZ, Q_SZ, Q_FD, Q_X4_⟩
                  refine steps_cons ?_ ?_
                  · rintro b a w' ⟨B5_, d5_, B6_, d6_, m4_, ha, Q_HBr, Q_FZ, Q_SZ, Q_FD, Q_X4_⟩ hb_ hon hoff
                    refine ⟨_, rfl, fun K hK => ?_⟩
                    have e93 : a.tmps[93]? = some (.bool true) := by rw [ha]; exact putSel_on (e := (7, 93, .bool true)) 7 rfl rfl (hon 7 (by kernel_rfl)) rfl
                    replace ha := Aside0.mk ha
                    have HBr := Aside0.mk Q_HBr
                    have FZ := Aside0.mk Q_FZ
                    have SZ := Aside0.mk Q_SZ
                    have FD := Aside0.mk (Q_FD (hon 4 (by kernel_rfl)))
                    refine value_ (w1 := w') (v := .bool true) ?cA ?cB ?_ ?_
                    case cA => rfl
                    case cB => rfl
                    · go_simp
                      (try simp only [i64_w])
                      (try (unfold wrap64; omega))
                      try rfl
                    refine hK.out _ _ ⟨B5_, d5_, B6_, d6_, m4_, (by rw [ha.out]; exact putSel_upk 8 hb_ rfl rfl rfl), Q_HBr, Q_FZ, Q_SZ, Q_FD, Q_X4_⟩
                  refine steps_cons ?_ ?_
                  · rintro b a w' ⟨B5_, d5_, B6_, d6_, m4_, ha, Q_HBr, Q_FZ, Q_SZ, Q_FD, Q_X4_⟩ hb_ hon hoff
                    refine ⟨_, rfl, fun K hK => ?_⟩
                    have e12 : a.tmps[12]? = some (.string (encS z)) := by rw [ha]; exact (putSel_off rfl).trans rfl
                    have e94 : a.tmps[94]? = some (.bool true) := by rw [ha]; exact putSel_on (e := (8, 94, .bool true)) 8 rfl rfl (hon 8 (by kernel_rfl)) rfl
                    replace ha := Aside0.mk ha
                    have HBr := Aside0.mk Q_HBr
                    have FZ := Aside0.mk Q_FZ
                    have SZ := Aside0.mk Q_SZ
                    have FD := Aside0.mk (Q_FD (hon 4 (by kernel_rfl)))
                    refine value_ (w1 := w') (v := .string (encS z)) (wanted_on rfl rfl rfl (e94.trans (by first | rfl | (simp [*]; done)))) rfl ?_ ?_
                    · go_simp
                      (try simp only [i64_w])
                      (try (unfold wrap64; omega))
                      try rfl
                    refine hK.out _ _ ⟨B5_, d5_, B6_, d6_, m4_, (by rw [ha.out]; exact putSel_upk 9 hb_ rfl rfl rfl), Q_HBr, Q_FZ, Q_SZ, Q_FD, Q_X4_⟩
                  refine steps_cons ?_ ?_
                  · rintro b a w' ⟨B5_, d5_, B6_, d6_, m4_, ha, Q_HBr, Q_FZ, Q_SZ, Q_FD, Q_X4_⟩ hb_ hon hoff
                    refine ⟨_, rfl, fun K hK => ?_⟩
                    have e95 : a.tmps[95]? = some (.string (encS z)) := by rw [ha]; exact putSel_on (e := (9, 95, .string (encS z))) 9 rfl rfl (hon 9 (by kernel_rfl)) rfl
                    have e94 : a.tmps[94]? = some (.bool true) := by rw [ha]; exact putSel_on (e := (8, 94, .bool true)) 8 rfl rfl (hon 8 (by kernel_rfl)) rfl
                    replace ha := Aside0.mk ha
                    have HBr := Aside0.mk Q_HBr
                    have FZ := Aside0.mk Q_FZ
                    have SZ := Aside0.mk Q_SZ
                    have FD := Aside0.mk (Q_FD (hon 4 (by kernel_rfl)))
                    have zb_ := HSZ.out
                    have zc_ := HL5.out
                    have zd_ := HL6.out
                    refine value_ (w1 := w') (v := .int .i64 (6 + 4 * (z5 : Int) + (z6 : Int))) (wanted_on rfl rfl rfl (e94.trans (by first | rfl | (simp [*]; done)))) rfl ?_ ?_
                    · go_simp
                      (try simp only [i64_w])
                      (try (unfold wrap64; omega))
                      try rfl
                    refine hK.out _ _ ⟨B5_, d5_, B6_, d6_, m4_, (by rw [ha.out]; exact putSel_upk 10 hb_ rfl rfl rfl), Q_HBr, Q_FZ, Q_SZ, Q_FD, Q_X4_⟩
                  refine steps_cons ?_ ?_
                  · rintro b a w' ⟨B5_, d5_, B6_, d6_, m4_, ha, Q_HBr, Q_FZ, Q_SZ, Q_FD, Q_X4_⟩ hb_ hon hoff
                    refine ⟨_, rfl, fun K hK => ?_⟩
                    have e11 : a.tmps[11]? = some (.pointer (some ⟨zb, 0, none⟩)) := by rw [ha]; exact (putSel_off rfl).trans rfl
                    have e94 : a.tmps[94]? = some (.bool true) := by rw [ha]; exact putSel_on (e := (8, 94, .bool true)) 8 rfl rfl (hon 8 (by kernel_rfl)) rfl
                    replace ha := Aside0.mk ha
                    have HBr := Aside0.mk Q_HBr
                    have FZ := Aside0.mk Q_FZ
                    have SZ := Aside0.mk Q_SZ
                    have FD := Aside0.mk (Q_FD (hon 4 (by kernel_rfl)))
                    refine value_ (w1 := w') (v := .pointer (some ⟨zb, 5, none⟩)) (wanted_on rfl rfl rfl (e94.trans (by first | rfl | (simp [*]; done)))) rfl ?_ ?_
                    · go_simp
                      (try simp only [i64_w])
                      (try (unfold wrap64; omega))
                      try rfl
                    refine hK.out _ _ ⟨B5_, d5_, B6_, d6_, m4_, (by rw [ha.out]; exact putSel_upk 11 hb_ rfl rfl rfl), Q_HBr, Q_FZ, Q_SZ, Q_FD, Q_X4_⟩
                  refine steps_cons ?_ ?_
                  · rintro b a w' ⟨B5_, d5_, B6_, d6_, m4_, ha, Q_HBr, Q_FZ, Q_SZ, Q_FD, Q_X4_⟩ hb_ hon hoff
                    refine ⟨_, rfl, fun K hK => ?_⟩
                    have e97 : a.tmps[97]? = some (.pointer (some ⟨zb, 5, none⟩)) := by rw [ha]; exact putSel_on (e := (11, 97, .pointer (some ⟨zb, 5, none⟩))) 11 rfl rfl (hon 11 (by kernel_rfl)) rfl
                    have e94 : a.tmps[94]? = some (.bool true) := by rw [ha]; exact putSel_on (e := (8, 94, .bool true)) 8 rfl rfl (hon 8 (by kernel_rfl)) rfl
                    replace ha := Aside0.mk ha
                    have HBr := Aside0.mk Q_HBr
                    have FZ := Aside0.mk Q_FZ
                    have SZ := Aside0.mk Q_SZ
                    have FD := Aside0.mk (Q_FD (hon 4 (by kernel_rfl)))
                    have z5_ : w'.cell? ⟨zb, 5, none⟩ = some (.slice E5 z5 h5) := (blk_cell (FZ.out) 5).trans rfl
                    refine value_ (w1 := w') (v := .slice E5 z5 h5) (wanted_on rfl rfl rfl (e94.trans (by first | rfl | (simp [*]; done)))) rfl ?_ ?_
                    · go_simp
                      (try simp only [i64_w])
                      (try (unfold wrap64; omega))
                      try rfl
                    refine hK.out _ _ ⟨B5_, d5_, B6_, d6_, m4_, (by rw [ha.out]; exact putSel_upk 12 hb_ rfl rfl rfl), Q_HBr, Q_FZ, Q_SZ, Q_FD, Q_X4_⟩
                  refine steps_cons ?_ ?_
                  · rintro b a w' ⟨B5_, d5_, B6_, d6_, m4_, ha, Q_HBr, Q_FZ, Q_SZ, Q_FD, Q_X4_⟩ hb_ hon hoff
                    refine ⟨_, rfl, fun K hK => ?_⟩
                    have e98 : a.tmps[98]? = some (.slice E5 z5 h5) := by rw [ha]; exact putSel_on (e := (12, 98, .slice E5 z5 h5)) 12 rfl rfl (hon 12 (by kernel_rfl)) rfl
                    have e94 : a.tmps[94]? = some (.bool true) := by rw [ha]; exact putSel_on (e := (8, 94, .bool true)) 8 rfl rfl (hon 8 (by kernel_rfl)) rfl
                    replace ha := Aside0.mk ha
                    have HBr := Aside0.mk Q_HBr
                    have FZ := Aside0.mk Q_FZ
                    have SZ := Aside0.mk Q_SZ
                    have FD := Aside0.mk (Q_FD (hon 4 (by kernel_rfl)))
                    refine value_ (w1 := w') (v := .int .i64 (z5 : Int)) (wanted_on rfl rfl rfl (e94.trans (by first | rfl | (simp [*]; done)))) rfl ?_ ?_
                    · go_simp
                      (try simp only [i64_w])
                      (try (unfold wrap64; omega))
                      try rfl
                    refine hK.out _ _ ⟨B5_, d5_, B6_, d6_, m4_, (by rw [ha.out]; exact putSel_upk 13 hb_ rfl rfl rfl), Q_HBr, Q_FZ, Q_SZ, Q_FD, Q_X4_⟩
                  refine steps_cons ?_ ?_
                  · rintro b a w' ⟨B5_, d5_, B6_, d6_, m4_, ha, Q_HBr, Q_FZ, Q_SZ, Q_FD, Q_X4_⟩ hb_ hon hoff
                    refine ⟨_, rfl, fun K hK => ?_⟩
                    have e99 : a.tmps[99]? = some (.int .i64 (z5 : Int)) := by rw [ha]; exact putSel_on (e := (13, 99, .int .i64 (z5 : Int))) 13 rfl rfl (hon 13 (by kernel_rfl)) rfl
                    have e94 : a.tmps[94]? = some (.bool true) := by rw [ha]; exact putSel_on (e := (8, 94, .bool true)) 8 rfl rfl (hon 8 (by kernel_rfl)) rfl
                    replace ha := Aside0.mk ha
                    have HBr := Aside0.mk Q_HBr
                    have FZ := Aside0.mk Q_FZ
                    have SZ := Aside0.mk Q_SZ
                    have FD := Aside0.mk (Q_FD (hon 4 (by kernel_rfl)))
                    have zb_ := HSZ.out
                    have zc_ := HL5.out
                    have zd_ := HL6.out
                    refine value_ (w1 := w') (v := .int .i64 (4 * (z5 : Int))) (wanted_on rfl rfl rfl (e94.trans (by first | rfl | (simp [*]; done)))) rfl ?_ ?_
                    · go_simp
                      (try simp only [i64_w])
                      (try (unfold wrap64; omega))
                      try rfl
                    refine hK.out _ _ ⟨B5_, d5_, B6_, d6_, m4_, (by rw [ha.out]; exact putSel_upk 14 hb_ rfl rfl rfl), Q_HBr, Q_FZ, Q_SZ, Q_FD, Q_X4_⟩
                  refine steps_cons ?_ ?_
                  · rintro b a w' ⟨B5_, d5_, B6_, d6_, m4_, ha, Q_HBr, Q_FZ, Q_SZ, Q_FD, Q_X4_⟩ hb_ hon hoff
                    refine ⟨_, rfl, fun K hK => ?_⟩
                    have e100 : a.tmps[100]? = some (.int .i64 (4 * (z5 : Int))) := by rw [ha]; exact putSel_on (e := (14, 100, .int .i64 (4 * (z5 : Int)))) 14 rfl rfl (hon 14 (by kernel_rfl)) rfl
                    have e94 : a.tmps[94]? = some (.bool true) := by rw [ha]; exact putSel_on (e := (8, 94, .bool true)) 8 rfl rfl (hon 8 (by kernel_rfl)) rfl
                    replace ha := Aside0.mk ha
                    have HBr := Aside0.mk Q_HBr
                    have FZ := Aside0.mk Q_FZ
                    have SZ := Aside0.mk Q_SZ
                    have FD := Aside0.mk (Q_FD (hon 4 (by kernel_rfl)))
                    have zb_ := HSZ.out
                    have zc_ := HL5.out
                    have zd_ := HL6.out
                    refine value_ (w1 := w') (v := .int .i64 (6 + 4 * (z5 : Int))) (wanted_on rfl rfl rfl (e94.trans (by first | rfl | (simp [*]; done)))) rfl ?_ ?_
                    · go_simp
                      (try simp only [i64_w])
                      (try (unfold wrap64; omega))
                      try rfl
                    refine hK.out _ _ ⟨B5_, d5_, B6_, d6_, m4_, (by rw [ha.out]; exact putSel_upk 15 hb_ rfl rfl rfl), Q_HBr, Q_FZ, Q_SZ, Q_FD, Q_X4_⟩
                  refine steps_cons ?_ ?_
                  · rintro b a w' ⟨B5_, d5_, B6_, d6_, m4_, ha, Q_HBr, Q_FZ, Q_SZ, Q_FD, Q_X4_⟩ hb_ hon hoff
                    refine ⟨_, rfl, fun K hK => ?_⟩
                    have e11 : a.tmps[11]? = some (.pointer (some ⟨zb, 0, none⟩)) := by rw [ha]; exact (putSel_off rfl).trans rfl
                    have e94 : a.tmps[94]? = some (.bool true) := by rw [ha]; exact putSel_on (e := (8, 94, .bool true)) 8 rfl rfl (hon 8 (by kernel_rfl)) rfl
                    replace ha := Aside0.mk ha
                    have HBr := Aside0.mk Q_HBr
                    have FZ := Aside0.mk Q_FZ
                    have SZ := Aside0.mk Q_SZ
                    have FD := Aside0.mk (Q_FD (hon 4 (by kernel_rfl)))
                    refine value_ (w1 := w') (v := .pointer (some ⟨zb, 6, none⟩)) (wanted_on rfl rfl rfl (e94.trans (by first | rfl | (simp [*]; done)))) rfl ?_ ?_
                    · go_simp
                      (try simp only [i64_w])
                      (try (unfold wrap64; omega))
                      try rfl
                    refine hK.out _ _ ⟨B5_, d5_, B6_, d6_, m4_, (by rw [ha.out]; exact putSel_upk 16 hb_ rfl rfl rfl), Q_HBr, Q_FZ, Q_SZ, Q_FD, Q_X4_⟩
                  refine steps_cons ?_ ?_
                  · rintro b a w' ⟨B5_, d5_, B6_, d6_, m4_, ha, Q_HBr, Q_FZ, Q_SZ, Q_FD, Q_X4_⟩ hb_ hon hoff
                    refine ⟨_, rfl, fun K hK => ?_⟩
                    have e102 : a.tmps[102]? = some (.pointer (some ⟨zb, 6, none⟩)) := by rw [ha]; exact putSel_on (e := (16, 102, .pointer (some ⟨zb, 6, none⟩))) 16 rfl rfl (hon 16 (by kernel_rfl)) rfl
                    have e94 : a.tmps[94]? = some (.bool true) := by rw [ha]; exact putSel_on (e := (8, 94, .bool true)) 8 rfl rfl (hon 8 (by kernel_rfl)) rfl
                    replace ha := Aside0.mk ha
                    have HBr := Aside0.mk Q_HBr
                    have FZ := Aside0.mk Q_FZ
                    have SZ := Aside0.mk Q_SZ
                    have FD := Aside0.mk (Q_FD (hon 4 (by kernel_rfl)))
                    have z6_ : w'.cell? ⟨zb, 6, none⟩ = some (.slice E6 z6 h6) := (blk_cell (FZ.out) 6).trans rfl
                    refine value_ (w1 := w') (v := .slice E6 z6 h6) (wanted_on rfl rfl rfl (e94.trans (by first | rfl | (simp [*]; done)))) rfl ?_ ?_
                    · go_simp
                      (try simp only [i64_w])
                      (try (unfold wrap64; omega))
                      try rfl
                    refine hK.out _ _ ⟨B5_, d5_, B6_, d6_, m4_, (by rw [ha.out]; exact putSel_upk 17 hb_ rfl rfl rfl), Q_HBr, Q_FZ, Q_SZ, Q_FD, Q_X4_⟩
                  refine steps_cons ?_ ?_
                  · rintro b a w' ⟨B5_, d5_, B6_, d6_, m4_, ha, Q_HBr, Q_FZ, Q_SZ, Q_FD, Q_X4_⟩ hb_ hon hoff
                    refine ⟨_, rfl, fun K hK => ?_⟩
                    have e103 : a.tmps[103]? = some (.slice E6 z6 h6) := by rw [ha]; exact putSel_on (e := (17, 103, .slice E6 z6 h6)) 17 rfl rfl (hon 17 (by kernel_rfl)) rfl
                    have e94 : a.tmps[94]? = some (.bool true) := by rw [ha]; exact putSel_on (e := (8, 94, .bool true)) 8 rfl rfl (hon 8 (by kernel_rfl)) rfl
                    replace ha := Aside0.mk ha
                    have HBr := Aside0.mk Q_HBr
                    have FZ := Aside0.mk Q_FZ
                    have SZ := Aside0.mk Q_SZ
                    have FD := Aside0.mk (Q_FD (hon 4 (by kernel_rfl)))
                    refine value_ (w1 := w') (v := .int .i64 (z6 : Int)) (wanted_on rfl rfl rfl (e94.trans (by first | rfl | (simp [*]; done)))) rfl ?_ ?_
                    · go_simp
                      (try simp only [i64_w])
                      (try (unfold wrap64; omega))
                      try rfl
                    refine hK.out _ _ ⟨B5_, d5_, B6_, d6_, m4_, (by rw [ha.out]; exact putSel_upk 18 hb_ rfl rfl rfl), Q_HBr, Q_FZ, Q_SZ, Q_FD, Q_X4_⟩
                  refine steps_cons ?_ ?_
                  · rintro b a w' ⟨B5_, d5_, B6_, d6_, m4_, ha, Q_HBr, Q_FZ, Q_SZ, Q_FD, Q_X4_⟩ hb_ hon hoff
                    refine ⟨_, rfl, fun K hK => ?_⟩
                    have e101 : a.tmps[101]? = some (.int .i64 (6 + 4 * (z5 : Int))) := by rw [ha]; exact putSel_on (e := (15, 101, .int .i64 (6 + 4 * (z5 : Int)))) 15 rfl rfl (hon 15 (by kernel_rfl)) rfl
                    have e104 : a.tmps[104]? = some (.int .i64 (z6 : Int)) := by rw [ha]; exact putSel_on (e := (18, 104, .int .i64 (z6 : Int))) 18 rfl rfl (hon 18 (by kernel_rfl)) rfl
                    have e94 : a.tmps[94]? = some (.bool true) := by rw [ha]; exact putSel_on (e := (8, 94, .bool true)) 8 rfl rfl (hon 8 (by kernel_rfl)) rfl
                    replace ha := Aside0.mk ha
                    have HBr := Aside0.mk Q_HBr
                    have FZ := Aside0.mk Q_FZ
                    have SZ := Aside0.mk Q_SZ
                    have FD := Aside0.mk (Q_FD (hon 4 (by kernel_rfl)))
                    have zb_ := HSZ.out
                    have zc_ := HL5.out
                    have zd_ := HL6.out
                    refine value_ (w1 := w') (v := .int .i64 (6 + 4 * (z5 : Int) + (z6 : Int))) (wanted_on rfl rfl rfl (e94.trans (by first | rfl | (simp [*]; done)))) rfl ?_ ?_
                    · go_simp
                      (try simp only [i64_w])
                      (try (unfold wrap64; omega))
                      try rfl
                    refine hK.out _ _ ⟨B5_, d5_, B6_, d6_, m4_, (by rw [ha.out]; exact putSel_upk 19 hb_ rfl rfl rfl), Q_HBr, Q_FZ, Q_SZ, Q_FD, Q_X4_⟩
                  refine steps_cons ?_ ?_
                  · rintro b a w' ⟨B5_, d5_, B6_, d6_, m4_, ha, Q_HBr, Q_FZ, Q_SZ, Q_FD, Q_X4_⟩ hb_ hon hoff
                    refine ⟨_, rfl, fun K hK => ?_⟩
                    have e96 : a.tmps[96]? = some (.int .i64 (6 + 4 * (z5 : Int) + (z6 : Int))) := by rw [ha]; exact putSel_on (e := (10, 96, .int .i64 (6 + 4 * (z5 : Int) + (z6 : Int)))) 10 rfl rfl (hon 10 (by kernel_rfl)) rfl
                    have e105 : a.tmps[105]? = some (.int .i64 (6 + 4 * (z5 : Int) + (z6 : Int))) := by rw [ha]; exact putSel_on (e := (19, 105, .int .i64 (6 + 4 * (z5 : Int) + (z6 : Int)))) 19 rfl rfl (hon 19 (by kernel_rfl)) rfl
                    have e94 : a.tmps[94]? = some (.bool true) := by rw [ha]; exact putSel_on (e := (8, 94, .bool true)) 8 rfl rfl (hon 8 (by kernel_rfl)) rfl
                    replace ha := Aside0.mk ha
                    have HBr := Aside0.mk Q_HBr
                    have FZ := Aside0.mk Q_FZ
                    have SZ := Aside0.mk Q_SZ
                    have FD := Aside0.mk (Q_FD (hon 4 (by kernel_rfl)))
                    have zb_ := HSZ.out
                    have zc_ := HL5.out
                    have zd_ := HL6.out
                    refine value_ (w1 := w') (v := .bool true) (wanted_on rfl rfl rfl (e94.trans (by first | rfl | (simp [*]; done)))) rfl ?_ ?_
                    · go_simp
                      (try simp only [i64_w])
                      (try (unfold wrap64; omega))
                      try rfl
                    refine hK.out _ _ ⟨B5_, d5_, B6_, d6_, m4_, (by rw [ha.out]; exact putSel_upk 20 hb_ rfl rfl rfl), Q_HBr, Q_FZ, Q_SZ, Q_FD, Q_X4_⟩
                  refine steps_cons ?_ ?_
                  · rintro b a w' ⟨B5_, d5_, B6_, d6_, m4_, ha, Q_HBr, Q_FZ, Q_SZ, Q_FD, Q_X4_⟩ hb_ hon hoff
                    refine ⟨_, rfl, fun K hK => ?_⟩
                    have e94 : a.tmps[94]? = some (.bool true) := by rw [ha]; exact putSel_on (e := (8, 94, .bool true)) 8 rfl rfl (hon 8 (by kernel_rfl)) rfl
                    have e106 : a.tmps[106]? = some (.bool true) := by rw [ha]; exact putSel_on (e := (20, 106, .bool true)) 20 rfl rfl (hon 20 (by kernel_rfl)) rfl
                    replace ha := Aside0.mk ha
                    have HBr := Aside0.mk Q_HBr
                    have FZ := Aside0.mk Q_FZ
                    have SZ := Aside0.mk Q_SZ
                    have FD := Aside0.mk (Q_FD (hon 4 (by kernel_rfl)))
                    refine value_ (w1 := w') (v := .bool true) ?cA ?cB ?_ ?_
                    case cA => rfl
                    case cB => rfl
                    · go_simp
                      (try simp only [i64_w])
                      (try (unfold wrap64; omega))
                      try rfl
                    refine hK.out _ _ ⟨B5_, d5_, B6_, d6_, m4_, (by rw [ha.out]; exact putSel_upk 21 hb_ rfl rfl rfl), Q_HBr, Q_FZ, Q_SZ, Q_FD, Q_X4_⟩
                  refine steps_cons ?_ ?_
                  · rintro b a w' ⟨B5_, d5_, B6_, d6_, m4_, ha, Q_HBr, Q_FZ, Q_SZ, Q_FD, Q_X4_⟩ hb_ hon hoff
                    refine ⟨_, rfl, fun K hK => ?_⟩
                    have e107 : a.tmps[107]? = some (.bool true) := by rw [ha]; exact putSel_on (e := (21, 107, .bool true)) 21 rfl rfl (hon 21 (by kernel_rfl)) rfl
                    replace ha := Aside0.mk ha
                    have HBr := Aside0.mk Q_HBr
                    have FZ := Aside0.mk Q_FZ
                    have SZ := Aside0.mk Q_SZ
                    have FD := Aside0.mk (Q_FD (hon 4 (by kernel_rfl)))
                    refine value_ (w1 := w') (v := .bool true) ?cA ?cB ?_ ?_
                    case cA => rfl
                    case cB => rfl
                    · go_simp
                      (try simp only [i64_w])
                      (try (unfold wrap64; omega))
                      try rfl
                    refine hK.out _ _ ⟨B5_, d5_, B6_, d6_, m4_, (by rw [ha.out]; exact putSel_upk 22 hb_ rfl rfl rfl), Q_HBr, Q_FZ, Q_SZ, Q_FD, Q_X4_⟩
                  exact steps_nil
                rintro b a w' hall ⟨B5_, d5_, B6_, d6_, m4_, ha, Q_HBr, Q_FZ, Q_SZ, Q_FD, Q_X4_⟩
                clear FZ HBr SZ
                have hb0_ := hall 0 (by kernel_rfl)
                have hb1_ := hall 1 (by kernel_rfl)
                have hb2_ := hall 2 (by kernel_rfl)
                have hb3_ := hall 3 (by kernel_rfl)
                have hb4_ := hall 4 (by kernel_rfl)
                have hb5_ := hall 5 (by kernel_rfl)
                have hb6_ := hall 6 (by kernel_rfl)
                have hb7_ := hall 7 (by kernel_rfl)
                have hb8_ := hall 8 (by kernel_rfl)
                have hb9_ := hall 9 (by kernel_rfl)
                have hb10_ := hall 10 (by kernel_rfl)
                have hb11_ := hall 11 (by kernel_rfl)
                have hb12_ := hall 12 (by kernel_rfl)
                have hb13_ := hall 13 (by kernel_rfl)
                have hb14_ := hall 14 (by kernel_rfl)
                have hb15_ := hall 15 (by kernel_rfl)
                have hb16_ := hall 16 (by kernel_rfl)
                have hb17_ := hall 17 (by kernel_rfl)
                have hb18_ := hall 18 (by kernel_rfl)
                have hb19_ := hall 19 (by kernel_rfl)
                have hb20_ := hall 20 (by kernel_rfl)
                have hb21_ := hall 21 (by kernel_rfl)
                have hb22_ := hall 22 (by kernel_rfl)
                subst ha
                obtain rfl := Q_X4_ hb4_
                simp only [putSel, hb0_, hb1_, hb2_, hb3_, hb4_, hb5_, hb6_, hb7_, hb8_, hb9_, hb10_, hb11_, hb12_, hb13_, hb14_, hb15_, hb16_, hb17_, hb18_, hb19_, hb20_, hb21_, hb22_, if_true, Act.put, List.setIfInBounds_toArray, List.set_cons_zero, List.set_cons_succ]
                have HBr := Aside0.mk Q_HBr
                clear Q_HBr
                have FZ := Aside0.mk Q_FZ
                clear Q_FZ
                have SZ := Aside0.mk Q_SZ
                clear Q_SZ
                have FD := Aside0.mk (Q_FD hb4_)
                clear Q_FD
                clear hall hb0_ hb1_ hb2_ hb3_ hb4_ hb5_ hb6_ hb7_ hb8_ hb9_ hb10_ hb11_ hb12_ hb13_ hb14_ hb15_ hb16_ hb17_ hb18_ hb19_ hb20_ hb21_ hb22_
                go_wp2
                go_ret
                exact ⟨rfl, HBr.out⟩
          · have ihs : (s.size : Int) > 16384 := by omega
            go_wp2
            go_ret
            exact ⟨rfl, HB.out⟩
        · have ik4 : (y6 : Int) > 4096 := by omega
          go_wp2
          go_ret
          exact ⟨rfl, HB.out⟩
      · have ik3 : (y5 : Int) > 64 := by omega
        go_wp2
        go_ret
        exact ⟨rfl, HB.out⟩
    · have ik2 : (x6 : Int) > 4096 := by omega
      go_wp2
      go_ret
      exact ⟨rfl, HB.out⟩
  · have ik1 : (x5 : Int) > 64 := by omega
    go_wp2
    go_ret
    exact ⟨rfl, HB.out⟩
end Go.Proofs.YtlcfkdglknkbdaaDoor.Lo
