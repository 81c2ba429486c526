/- SieveMore: what is kept more lets no more be freed. -/
import Derived.Test.YtcnhjbpgjemnhaaSvD
import Derived.Test.YtcnhjbpgjemnhaaSvW
import Derived.Test.YtcnhjbpgjemnhaaWInvWords
namespace Go.Proofs.Ytcnhjbpgjemnhaa.Sv
open Go.RowKit Go.Proofs.YtcnhjbpgjemnhaaW.PrintWords Go.Proofs.YtcnhjbpgjemnhaaW.PrintLast Go.Proofs.YtcnhjbpgjemnhaaW.PrintMore Go.Proofs.Ytcnhjbpgjemnhaa.X
set_option linter.unusedVariables false
set_option linter.unusedSimpArgs false
attribute [local go_sem ↓] Go.wp_at_zero Go.wp_at_succ

def more.T6 : Bool × List (List Nat × List Nat) := (true, [([], []), ([], []), ([], []), ([2], [2]), ([1, 3], [1, 3]), ([], []), ([5], [5]), ([4, 6, 4], [4, 6]), ([0, 7, 7], [0, 7]), ([8], [8]), ([9], [9]), ([9], [9]), ([10, 8, 0, 1, 2, 3, 4, 5, 6, 7, 8, 9, 10], [10]), ([11, 12, 0, 1, 2, 3, 4, 5, 6, 7, 8, 9, 10, 11, 12], [11])])
def more.B6 : List Nat := [0, 0, 0, 4, 14, 0, 32, 126, 255, 511, 1023, 1023, 2047, 8191]
theorem more.tab6 : rtab .any (opsOf Try.f4 6) = more.T6 := by kernel_rfl
theorem more.bits6 : waitsOk more.T6.2 more.B6 = true := by kernel_rfl
def more.T8 : Bool × List (List Nat × List Nat) := (true, [([], []), ([], []), ([], []), ([2], [2]), ([1, 3], [1, 3]), ([], []), ([5], [5]), ([4, 6, 4], [4, 6]), ([0, 7, 7], [0, 7]), ([8], [8]), ([9], [9]), ([9], [9]), ([10, 8, 0, 1, 2, 3, 4, 5, 6, 7, 8, 9, 10], [10]), ([11, 12, 0, 1, 2, 3, 4, 5, 6, 7, 8, 9, 10, 11, 12], [11])])
def more.B8 : List Nat := [0, 0, 0, 4, 14, 0, 32, 126, 255, 511, 1023, 1023, 2047, 8191]
theorem more.tab8 : rtab .any (opsOf Try.f4 8) = more.T8 := by kernel_rfl
theorem more.bits8 : waitsOk more.T8.2 more.B8 = true := by kernel_rfl
def more.T10 : Bool × List (List Nat × List Nat) := (true, [([], []), ([], []), ([], []), ([2], [2]), ([1, 3], [1, 3]), ([], []), ([5], [5]), ([4, 6, 4], [4, 6]), ([0, 7, 7], [0, 7]), ([8], [8]), ([9], [9]), ([9], [9]), ([10, 8, 0, 1, 2, 3, 4, 5, 6, 7, 8, 9, 10], [10]), ([11, 12, 0, 1, 2, 3, 4, 5, 6, 7, 8, 9, 10, 11, 12], [11])])
def more.B10 : List Nat := [0, 0, 0, 4, 14, 0, 32, 126, 255, 511, 1023, 1023, 2047, 8191]
theorem more.tab10 : rtab .any (opsOf Try.f4 10) = more.T10 := by kernel_rfl
theorem more.bits10 : waitsOk more.T10.2 more.B10 = true := by kernel_rfl
set_option maxHeartbeats 4000000 in
set_option maxRecDepth 100000 in
theorem more_walk (A : Option Addr) (c : Nat) (l : List S39) (k m : S27) (Ak1 Ak2 Ak3 Am1 Am2 Am3 : Option Addr) (ck1 ck2 ck3 cm1 cm2 cm3 : Nat) (w : World) (ca : Kd.C k39 w A l.length l) (hc : l.length ≤ c)
    (k1 : Kd.C k37 w Ak1 k.f0.length k.f0) (k2 : Kd.C (Kd.int .i64) w Ak2 k.f1.length k.f1) (k3 : Kd.C k41 w Ak3 k.f2.length k.f2)
    (m1 : Kd.C k37 w Am1 m.f0.length m.f0) (m2 : Kd.C (Kd.int .i64) w Am2 m.f1.length m.f1) (m3 : Kd.C k41 w Am3 m.f2.length m.f2) :
    Calls Try.prog 4 #[.slice A l.length c, .agg #[.slice Ak1 k.f0.length ck1, .slice Ak2 k.f1.length ck2, .slice Ak3 k.f2.length ck3, .int .i64 k.f3], .agg #[.slice Am1 m.f0.length cm1, .slice Am2 m.f1.length cm2, .slice Am3 m.f2.length cm3, .int .i64 m.f3]] w fun e w' => e = .returned (.bool true) ∧ Below w.heap.size w w' := by
  have hu27 := Try.underlying27
  have hu39 := Try.underlying39
  have hu37 := Try.underlying37
  have hu41 := Try.underlying41
  have hla := Kd.C_max ca
  have hb0 := below_alloc (below_alloc (Below.refl w.heap.size w) (.cells #[.slice Ak1 k.f0.length ck1, .slice Ak2 k.f1.length ck2, .slice Ak3 k.f2.length ck3, .int .i64 k.f3] 27)) (.cells #[.slice Am1 m.f0.length cm1, .slice Am2 m.f1.length cm2, .slice Am3 m.f2.length cm3, .int .i64 m.f3] 27)
  have CA := Aside0.mk ca
  clear ca
  have K1 := Aside0.mk k1
  clear k1
  have K2 := Aside0.mk k2
  clear k2
  have K3 := Aside0.mk k3
  clear k3
  have M1 := Aside0.mk m1
  clear m1
  have M2 := Aside0.mk m2
  clear m2
  have M3 := Aside0.mk m3
  clear m3
  have HB0 := Aside0.mk hb0
  clear hb0
  go_enter Try.func4, Try.ntmps4
  go_wp2_with fail
  refine (awake_c _).mono ?_
  rintro e w2 ⟨rfl, hb1⟩
  have XK : Aside0 (w2.heap[w.heap.size]? = some (.cells #[.slice Ak1 k.f0.length ck1, .slice Ak2 k.f1.length ck2, .slice Ak3 k.f2.length ck3, .int .i64 k.f3] 27 (0, 0))) := ⟨blk_below hb1 (blk_alloc (blk_new _ _) _)⟩
  have XM : Aside0 (w2.heap[w.heap.size + 1]? = some (.cells #[.slice Am1 m.f0.length cm1, .slice Am2 m.f1.length cm2, .slice Am3 m.f2.length cm3, .int .i64 m.f3] 27 (0, 0))) := ⟨blk_below hb1 (by simpa using blk_new (w.alloc (.cells #[.slice Ak1 k.f0.length ck1, .slice Ak2 k.f1.length ck2, .slice Ak3 k.f2.length ck3, .int .i64 k.f3] 27)) (.cells #[.slice Am1 m.f0.length cm1, .slice Am2 m.f1.length cm2, .slice Am3 m.f2.length cm3, .int .i64 m.f3] 27))⟩
  have HB := Aside0.mk (below_step HB0.out hb1)
  clear hb1 HB0
  have x_XK0 : w2.cell? ⟨w.heap.size, 0, none⟩ = some (.slice Ak1 k.f0.length ck1) := (blk_cell XK.out 0).trans rfl
  have x_XK1 : w2.cell? ⟨w.heap.size, 1, none⟩ = some (.slice Ak2 k.f1.length ck2) := (blk_cell XK.out 1).trans rfl
  have x_XK2 : w2.cell? ⟨w.heap.size, 2, none⟩ = some (.slice Ak3 k.f2.length ck3) := (blk_cell XK.out 2).trans rfl
  have x_XK3 : w2.cell? ⟨w.heap.size, 3, none⟩ = some (.int .i64 k.f3) := (blk_cell XK.out 3).trans rfl
  go_wp2_with fail
  refine (great_c A c l k Ak1 Ak2 Ak3 ck1 ck2 ck3 _).mono ?_
  rintro e w3 ⟨rfl, hb⟩
  clear x_XK0 x_XK1 x_XK2 x_XK3
  replace XK := Aside0.mk (blk_below hb XK.out)
  replace XM := Aside0.mk (blk_below hb XM.out)
  replace HB := Aside0.mk (below_step HB.out hb)
  clear hb
  obtain ⟨gk, hgk⟩ : ∃ z, greatB l k = z := ⟨_, rfl⟩
  rw [hgk]
  cases gk
  rotate_left
  · go_wp2
    go_ret
    exact ⟨rfl, HB.out⟩
  have x_XM0 : w3.cell? ⟨w.heap.size + 1, 0, none⟩ = some (.slice Am1 m.f0.length cm1) := (blk_cell XM.out 0).trans rfl
  have x_XM1 : w3.cell? ⟨w.heap.size + 1, 1, none⟩ = some (.slice Am2 m.f1.length cm2) := (blk_cell XM.out 1).trans rfl
  have x_XM2 : w3.cell? ⟨w.heap.size + 1, 2, none⟩ = some (.slice Am3 m.f2.length cm3) := (blk_cell XM.out 2).trans rfl
  have x_XM3 : w3.cell? ⟨w.heap.size + 1, 3, none⟩ = some (.int .i64 m.f3) := (blk_cell XM.out 3).trans rfl
  go_wp2_with fail
  refine (great_c A c l m Am1 Am2 Am3 cm1 cm2 cm3 _).mono ?_
  rintro e w4 ⟨rfl, hb⟩
  clear x_XM0 x_XM1 x_XM2 x_XM3
  replace XK := Aside0.mk (blk_below hb XK.out)
  replace XM := Aside0.mk (blk_below hb XM.out)
  replace HB := Aside0.mk (below_step HB.out hb)
  clear hb
  obtain ⟨gm, hgm⟩ : ∃ z, greatB l m = z := ⟨_, rfl⟩
  rw [hgm]
  cases gm
  rotate_left
  · go_wp2
    go_ret
    exact ⟨rfl, HB.out⟩
  simp [greatB] at hgk hgm
  obtain ⟨hl60, hk1, hk2, hk3⟩ := hgk
  obtain ⟨_, hm1, hm2, hm3⟩ := hgm
  have x_XK0 : w4.cell? ⟨w.heap.size, 0, none⟩ = some (.slice Ak1 k.f0.length ck1) := (blk_cell XK.out 0).trans rfl
  have x_XK1 : w4.cell? ⟨w.heap.size, 1, none⟩ = some (.slice Ak2 k.f1.length ck2) := (blk_cell XK.out 1).trans rfl
  have x_XK2 : w4.cell? ⟨w.heap.size, 2, none⟩ = some (.slice Ak3 k.f2.length ck3) := (blk_cell XK.out 2).trans rfl
  have x_XK3 : w4.cell? ⟨w.heap.size, 3, none⟩ = some (.int .i64 k.f3) := (blk_cell XK.out 3).trans rfl
  have x_XM0 : w4.cell? ⟨w.heap.size + 1, 0, none⟩ = some (.slice Am1 m.f0.length cm1) := (blk_cell XM.out 0).trans rfl
  have x_XM1 : w4.cell? ⟨w.heap.size + 1, 1, none⟩ = some (.slice Am2 m.f1.length cm2) := (blk_cell XM.out 1).trans rfl
  have x_XM2 : w4.cell? ⟨w.heap.size + 1, 2, none⟩ = some (.slice Am3 m.f2.length cm3) := (blk_cell XM.out 2).trans rfl
  have x_XM3 : w4.cell? ⟨w.heap.size + 1, 3, none⟩ = some (.int .i64 m.f3) := (blk_cell XM.out 3).trans rfl
  by_cases hq0 : k.f3 < 0
  · go_wp2
    go_ret
    exact ⟨rfl, HB.out⟩
  by_cases hq1 : 1099511627776 < k.f3
  · go_wp2
    go_ret
    exact ⟨rfl, HB.out⟩
  by_cases hq2 : m.f3 < 0
  · go_wp2
    go_ret
    exact ⟨rfl, HB.out⟩
  by_cases hq3 : 1099511627776 < m.f3
  · go_wp2
    go_ret
    exact ⟨rfl, HB.out⟩
  go_wp2_with fail
  refine (Slots_s (Sl_mk (Kd.C_below CA.out HB.out) hc) (by omega) (Sc_mk (Kd.C_below K1.out HB.out))).mono ?_
  rintro e w5 ⟨a63_, b63_, rfl, RA63, _, hb⟩
  clear x_XK0 x_XK1 x_XK2 x_XK3 x_XM0 x_XM1 x_XM2 x_XM3
  replace XK := Aside0.mk (blk_below hb XK.out)
  replace XM := Aside0.mk (blk_below hb XM.out)
  replace HB := Aside0.mk (below_step HB.out hb)
  clear hb
  replace RA63 := Aside0.mk RA63
  go_wp2
  refine start_ (n := 14) (S := fun w' => True) (ds := []) #[false, false, false, false, false, false, false, false, false, false, false, false, false, false] (by kernel_rfl) rfl rfl trivial (fun hHeld => ?_)
  refine with_tabW more.tab6 more.bits6 (fun HT_ HW_ => ?_)
  have HBr := Aside0.mk (below_drew1 (Below.refl w5.heap.size w5))
  refine inv_at [0, 1, 2, 3, 4, 5, 6, 7, 8, 9, 10, 11, 12, 13] (fun a0_ b a w' => ∃ (v68_ : Value) (v71_ : Value) (v74_ : Value) (a75_ : Value) (b75_ : Value) (m8_ : Value) (m9_ : Value) (m10_ : Value) (m11_ : Value) (m12_ : Value) (m13_ : Value), a = putSel a0_ b [(0, 67, .slice A l.length c), (1, 68, v68_), (2, 69, .pointer (some ⟨w.heap.size, 0, none⟩)), (3, 70, .slice Ak1 k.f0.length ck1), (4, 71, v71_), (5, 72, .pointer (some ⟨w.heap.size + 1, 0, none⟩)), (6, 73, .slice Am1 m.f0.length cm1), (7, 74, v74_), (8, 75, m8_), (9, 66, m9_), (10, 76, m10_), (11, 77, m11_), (12, 9, m12_), (13, 10, m13_)] ∧ (Below w5.heap.size w5 w') ∧ (b 1 = true → b 4 = false → Kd.R k37 37 w' w5.heap.size (fun _ => True) v68_ []) ∧ (b 4 = true → b 7 = false → Kd.R k37 37 w' w5.heap.size (fun _ => True) v71_ (k.f0)) ∧ (b 7 = true → Kd.R k37 37 w' w5.heap.size (fun _ => True) v74_ (k.f0 ++ m.f0)) ∧ (b 8 = true → Sl k39 w' a75_ (l.filter fun x => !slB (k.f0 ++ m.f0) x)) ∧ (b 8 = true → (m8_ : Value) = .tuple #[a75_, b75_]) ∧ (b 9 = true → (m9_ : Value) = .tuple #[a75_, b75_]) ∧ (b 10 = true → (m10_ : Value) = a75_) ∧ (b 11 = true → (m11_ : Value) = b75_) ∧ (b 12 = true → (m12_ : Value) = a75_) ∧ (b 13 = true → (m13_ : Value) = b75_)) HT_.out HW_.out (by kernel_rfl) (by kernel_rfl) ?_ ?_ ?_
  · exact ⟨.bool false, .bool false, .bool false, .bool false, .bool false, .bool false, .bool false, .bool false, .bool false, .bool false, .bool false, by simp only [putSel, Bool.false_eq_true, if_false], HBr.out, fun h_ => absurd h_ (by decide), fun h_ => absurd h_ (by decide), fun h_ => absurd h_ (by decide), fun h_ => absurd h_ (by decide), fun h_ => absurd h_ (by decide), fun h_ => absurd h_ (by decide), fun h_ => absurd h_ (by decide), fun h_ => absurd h_ (by decide), fun h_ => absurd h_ (by decide), fun h_ => absurd h_ (by decide)⟩
  · skip
    clear HBr
    refine steps_cons ?_ ?_
    · rintro b a w' ⟨v68_, v71_, v74_, a75_, b75_, m8_, m9_, m10_, m11_, m12_, m13_, ha, Q_HBr, Q_RO68, Q_RO71, Q_RO74, Q_RA75, Q_X8_, Q_X9_, Q_X10_, Q_X11_, Q_X12_, Q_X13_⟩ hb_ hon hoff
      refine ⟨_, rfl, fun K hK => ?_⟩
      have e0 : a.tmps[0]? = some (.slice A l.length c) := by rw [ha]; exact (putSel_off rfl).trans rfl
      replace ha := Aside0.mk ha
      have HBr := Aside0.mk Q_HBr
      refine value_ (w1 := w') (v := .slice A l.length c) (by rfl) rfl ?_ ?_
      · go_simp
        (try simp only [i64_w])
        try rfl
      refine hK.out _ _ ⟨v68_, v71_, v74_, a75_, b75_, m8_, m9_, m10_, m11_, m12_, m13_, (by rw [ha.out]; exact putSel_upk 0 hb_ rfl rfl rfl), Q_HBr, Q_RO68, Q_RO71, Q_RO74, fun h0_ => absurd ((hoff 8 (by kernel_rfl)).symm.trans h0_) (by decide), fun h0_ => absurd ((hoff 8 (by kernel_rfl)).symm.trans h0_) (by decide), fun h0_ => absurd ((hoff 9 (by kernel_rfl)).symm.trans h0_) (by decide), fun h0_ => absurd ((hoff 10 (by kernel_rfl)).symm.trans h0_) (by decide), fun h0_ => absurd ((hoff 11 (by kernel_rfl)).symm.trans h0_) (by decide), fun h0_ => absurd ((hoff 12 (by kernel_rfl)).symm.trans h0_) (by decide), fun h0_ => absurd ((hoff 13 (by kernel_rfl)).symm.trans h0_) (by decide)⟩
    refine steps_cons ?_ ?_
    · rintro b a w' ⟨v68_, v71_, v74_, a75_, b75_, m8_, m9_, m10_, m11_, m12_, m13_, ha, Q_HBr, Q_RO68, Q_RO71, Q_RO74, Q_RA75, Q_X8_, Q_X9_, Q_X10_, Q_X11_, Q_X12_, Q_X13_⟩ hb_ hon hoff
      refine ⟨_, rfl, fun K hK => ?_⟩
      replace ha := Aside0.mk ha
      have HBr := Aside0.mk Q_HBr
      refine event_step (w1 := w'.alloc (.cells #[] 37)) (v := .slice (some ⟨w'.heap.size, 0, none⟩) 0 0) (by rfl) ?_ ?_
      · go_simp
        try rfl
      refine hK.out _ _ ⟨.slice (some ⟨w'.heap.size, 0, none⟩) 0 0, v71_, v74_, a75_, b75_, m8_, m9_, m10_, m11_, m12_, m13_, (by rw [ha.out]; exact putSel_upk 1 hb_ rfl rfl rfl), below_step HBr.out (below_alloc (Below.refl w'.heap.size w') _), fun _ _ => R_lit_alloc k37 37 w' (below_size HBr.out) (xs := []) (inner := []) (Reps.none _ _) (by simp), fun h0_ _ => absurd ((hoff 4 (by kernel_rfl)).symm.trans h0_) (by decide), fun h0_ => absurd ((hoff 7 (by kernel_rfl)).symm.trans h0_) (by decide), fun h0_ => absurd ((hoff 8 (by kernel_rfl)).symm.trans h0_) (by decide), fun h0_ => absurd ((hoff 8 (by kernel_rfl)).symm.trans h0_) (by decide), fun h0_ => absurd ((hoff 9 (by kernel_rfl)).symm.trans h0_) (by decide), fun h0_ => absurd ((hoff 10 (by kernel_rfl)).symm.trans h0_) (by decide), fun h0_ => absurd ((hoff 11 (by kernel_rfl)).symm.trans h0_) (by decide), fun h0_ => absurd ((hoff 12 (by kernel_rfl)).symm.trans h0_) (by decide), fun h0_ => absurd ((hoff 13 (by kernel_rfl)).symm.trans h0_) (by decide)⟩
    refine steps_cons ?_ ?_
    · rintro b a w' ⟨v68_, v71_, v74_, a75_, b75_, m8_, m9_, m10_, m11_, m12_, m13_, ha, Q_HBr, Q_RO68, Q_RO71, Q_RO74, Q_RA75, Q_X8_, Q_X9_, Q_X10_, Q_X11_, Q_X12_, Q_X13_⟩ hb_ hon hoff
      refine ⟨_, rfl, fun K hK => ?_⟩
      have e4 : a.tmps[4]? = some (.pointer (some ⟨w.heap.size, 0, none⟩)) := by rw [ha]; exact (putSel_off rfl).trans rfl
      replace ha := Aside0.mk ha
      have HBr := Aside0.mk Q_HBr
      refine value_ (w1 := w') (v := .pointer (some ⟨w.heap.size, 0, none⟩)) (by rfl) rfl ?_ ?_
      · go_simp
        (try simp only [i64_w])
        try rfl
      refine hK.out _ _ ⟨v68_, v71_, v74_, a75_, b75_, m8_, m9_, m10_, m11_, m12_, m13_, (by rw [ha.out]; exact putSel_upk 2 hb_ rfl rfl rfl), Q_HBr, Q_RO68, fun h0_ _ => absurd ((hoff 4 (by kernel_rfl)).symm.trans h0_) (by decide), fun h0_ => absurd ((hoff 7 (by kernel_rfl)).symm.trans h0_) (by decide), fun h0_ => absurd ((hoff 8 (by kernel_rfl)).symm.trans h0_) (by decide), fun h0_ => absurd ((hoff 8 (by kernel_rfl)).symm.trans h0_) (by decide), fun h0_ => absurd ((hoff 9 (by kernel_rfl)).symm.trans h0_) (by decide), fun h0_ => absurd ((hoff 10 (by kernel_rfl)).symm.trans h0_) (by decide), fun h0_ => absurd ((hoff 11 (by kernel_rfl)).symm.trans h0_) (by decide), fun h0_ => absurd ((hoff 12 (by kernel_rfl)).symm.trans h0_) (by decide), fun h0_ => absurd ((hoff 13 (by kernel_rfl)).symm.trans h0_) (by decide)⟩
    refine steps_cons ?_ ?_
    · rintro b a w' ⟨v68_, v71_, v74_, a75_, b75_, m8_, m9_, m10_, m11_, m12_, m13_, ha, Q_HBr, Q_RO68, Q_RO71, Q_RO74, Q_RA75, Q_X8_, Q_X9_, Q_X10_, Q_X11_, Q_X12_, Q_X13_⟩ hb_ hon hoff
      refine ⟨_, rfl, fun K hK => ?_⟩
      have e69 : a.tmps[69]? = some (.pointer (some ⟨w.heap.size, 0, none⟩)) := by rw [ha]; exact putSel_on (e := (2, 69, .pointer (some ⟨w.heap.size, 0, none⟩))) 2 rfl rfl (hon 2 (by kernel_rfl)) rfl
      replace ha := Aside0.mk ha
      have HBr := Aside0.mk Q_HBr
      have z0_ : w'.cell? ⟨w.heap.size, 0, none⟩ = some (.slice Ak1 k.f0.length ck1) := (blk_cell (blk_below HBr.out XK.out) 0).trans rfl
      refine value_ (w1 := w') (v := .slice Ak1 k.f0.length ck1) (by rfl) rfl ?_ ?_
      · go_simp
        (try simp only [i64_w])
        try rfl
      refine hK.out _ _ ⟨v68_, v71_, v74_, a75_, b75_, m8_, m9_, m10_, m11_, m12_, m13_, (by rw [ha.out]; exact putSel_upk 3 hb_ rfl rfl rfl), Q_HBr, Q_RO68, fun h0_ _ => absurd ((hoff 4 (by kernel_rfl)).symm.trans h0_) (by decide), fun h0_ => absurd ((hoff 7 (by kernel_rfl)).symm.trans h0_) (by decide), fun h0_ => absurd ((hoff 8 (by kernel_rfl)).symm.trans h0_) (by decide), fun h0_ => absurd ((hoff 8 (by kernel_rfl)).symm.trans h0_) (by decide), fun h0_ => absurd ((hoff 9 (by kernel_rfl)).symm.trans h0_) (by decide), fun h0_ => absurd ((hoff 10 (by kernel_rfl)).symm.trans h0_) (by decide), fun h0_ => absurd ((hoff 11 (by kernel_rfl)).symm.trans h0_) (by decide), fun h0_ => absurd ((hoff 12 (by kernel_rfl)).symm.trans h0_) (by decide), fun h0_ => absurd ((hoff 13 (by kernel_rfl)).symm.trans h0_) (by decide)⟩
    refine steps_cons ?_ ?_
    · rintro b a w' ⟨v68_, v71_, v74_, a75_, b75_, m8_, m9_, m10_, m11_, m12_, m13_, ha, Q_HBr, Q_RO68, Q_RO71, Q_RO74, Q_RA75, Q_X8_, Q_X9_, Q_X10_, Q_X11_, Q_X12_, Q_X13_⟩ hb_ hon hoff
      refine ⟨_, rfl, fun K hK => ?_⟩
      have e68 : a.tmps[68]? = some (v68_) := by rw [ha]; exact putSel_on (e := (1, 68, v68_)) 1 rfl rfl (hon 1 (by kernel_rfl)) rfl
      have e70 : a.tmps[70]? = some (.slice Ak1 k.f0.length ck1) := by rw [ha]; exact putSel_on (e := (3, 70, .slice Ak1 k.f0.length ck1)) 3 rfl rfl (hon 3 (by kernel_rfl)) rfl
      replace ha := Aside0.mk ha
      have HBr := Aside0.mk Q_HBr
      have RO68 := Aside0.mk (Q_RO68 (hon 1 (by kernel_rfl)) hb_)
      refine Kd.R_append_rows_step k37 (w0 := w5) w5.heap.size (by rfl) (.tmp 68) (.tmp 70) 23 37 _ _ rfl Try.underlying23 info37 rfl (by decide) (by decide) v68_ (([] : List S37)) (k.f0) _ _ _ (fun _ => True) (fun _ => False) (by first | (go_simp; done) | (go_simp; rfl)) (by first | (go_simp; done) | (go_simp; rfl)) RO68.out (Kd.C_below K1.out (below_step HB.out HBr.out)) (fun _ _ h => h) (fun _ h => h.elim) (fun _ _ => trivial) HBr.out (below_size HBr.out) (by simp; omega) ?_
      intro va_ w1 hR_ hB_ hg_ hat_
      refine hK.out _ _ ⟨v68_, va_, v74_, a75_, b75_, m8_, m9_, m10_, m11_, m12_, m13_, (by rw [ha.out]; exact putSel_upk 4 hb_ rfl rfl rfl), hB_, fun _ h1_ => absurd ((up_self b 4).symm.trans h1_) (by decide), fun _ _ => hR_, fun h0_ => absurd ((hoff 7 (by kernel_rfl)).symm.trans h0_) (by decide), fun h0_ => absurd ((hoff 8 (by kernel_rfl)).symm.trans h0_) (by decide), fun h0_ => absurd ((hoff 8 (by kernel_rfl)).symm.trans h0_) (by decide), fun h0_ => absurd ((hoff 9 (by kernel_rfl)).symm.trans h0_) (by decide), fun h0_ => absurd ((hoff 10 (by kernel_rfl)).symm.trans h0_) (by decide), fun h0_ => absurd ((hoff 11 (by kernel_rfl)).symm.trans h0_) (by decide), fun h0_ => absurd ((hoff 12 (by kernel_rfl)).symm.trans h0_) (by decide), fun h0_ => absurd ((hoff 13 (by kernel_rfl)).symm.trans h0_) (by decide)⟩
    refine steps_cons ?_ ?_
    · rintro b a w' ⟨v68_, v71_, v74_, a75_, b75_, m8_, m9_, m10_, m11_, m12_, m13_, ha, Q_HBr, Q_RO68, Q_RO71, Q_RO74, Q_RA75, Q_X8_, Q_X9_, Q_X10_, Q_X11_, Q_X12_, Q_X13_⟩ hb_ hon hoff
      refine ⟨_, rfl, fun K hK => ?_⟩
      have e5 : a.tmps[5]? = some (.pointer (some ⟨w.heap.size + 1, 0, none⟩)) := by rw [ha]; exact (putSel_off rfl).trans rfl
      replace ha := Aside0.mk ha
      have HBr := Aside0.mk Q_HBr
      refine value_ (w1 := w') (v := .pointer (some ⟨w.heap.size + 1, 0, none⟩)) (by rfl) rfl ?_ ?_
      · go_simp
        (try simp only [i64_w])
        try rfl
      refine hK.out _ _ ⟨v68_, v71_, v74_, a75_, b75_, m8_, m9_, m10_, m11_, m12_, m13_, (by rw [ha.out]; exact putSel_upk 5 hb_ rfl rfl rfl), Q_HBr, Q_RO68, Q_RO71, fun h0_ => absurd ((hoff 7 (by kernel_rfl)).symm.trans h0_) (by decide), fun h0_ => absurd ((hoff 8 (by kernel_rfl)).symm.trans h0_) (by decide), fun h0_ => absurd ((hoff 8 (by kernel_rfl)).symm.trans h0_) (by decide), fun h0_ => absurd ((hoff 9 (by kernel_rfl)).symm.trans h0_) (by decide), fun h0_ => absurd ((hoff 10 (by kernel_rfl)).symm.trans h0_) (by decide), fun h0_ => absurd ((hoff 11 (by kernel_rfl)).symm.trans h0_) (by decide), fun h0_ => absurd ((hoff 12 (by kernel_rfl)).symm.trans h0_) (by decide), fun h0_ => absurd ((hoff 13 (by kernel_rfl)).symm.trans h0_) (by decide)⟩
    refine steps_cons ?_ ?_
    · rintro b a w' ⟨v68_, v71_, v74_, a75_, b75_, m8_, m9_, m10_, m11_, m12_, m13_, ha, Q_HBr, Q_RO68, Q_RO71, Q_RO74, Q_RA75, Q_X8_, Q_X9_, Q_X10_, Q_X11_, Q_X12_, Q_X13_⟩ hb_ hon hoff
      refine ⟨_, rfl, fun K hK => ?_⟩
      have e72 : a.tmps[72]? = some (.pointer (some ⟨w.heap.size + 1, 0, none⟩)) := by rw [ha]; exact putSel_on (e := (5, 72, .pointer (some ⟨w.heap.size + 1, 0, none⟩))) 5 rfl rfl (hon 5 (by kernel_rfl)) rfl
      replace ha := Aside0.mk ha
      have HBr := Aside0.mk Q_HBr
      have z0_ : w'.cell? ⟨w.heap.size + 1, 0, none⟩ = some (.slice Am1 m.f0.length cm1) := (blk_cell (blk_below HBr.out XM.out) 0).trans rfl
      refine value_ (w1 := w') (v := .slice Am1 m.f0.length cm1) (by rfl) rfl ?_ ?_
      · go_simp
        (try simp only [i64_w])
        try rfl
      refine hK.out _ _ ⟨v68_, v71_, v74_, a75_, b75_, m8_, m9_, m10_, m11_, m12_, m13_, (by rw [ha.out]; exact putSel_upk 6 hb_ rfl rfl rfl), Q_HBr, Q_RO68, Q_RO71, fun h0_ => absurd ((hoff 7 (by kernel_rfl)).symm.trans h0_) (by decide), fun h0_ => absurd ((hoff 8 (by kernel_rfl)).symm.trans h0_) (by decide), fun h0_ => absurd ((hoff 8 (by kernel_rfl)).symm.trans h0_) (by decide), fun h0_ => absurd ((hoff 9 (by kernel_rfl)).symm.trans h0_) (by decide), fun h0_ => absurd ((hoff 10 (by kernel_rfl)).symm.trans h0_) (by decide), fun h0_ => absurd ((hoff 11 (by kernel_rfl)).symm.trans h0_) (by decide), fun h0_ => absurd ((hoff 12 (by kernel_rfl)).symm.trans h0_) (by decide), fun h0_ => absurd ((hoff 13 (by kernel_rfl)).symm.trans h0_) (by decide)⟩
    refine steps_cons ?_ ?_
    · rintro b a w' ⟨v68_, v71_, v74_, a75_, b75_, m8_, m9_, m10_, m11_, m12_, m13_, ha, Q_HBr, Q_RO68, Q_RO71, Q_RO74, Q_RA75, Q_X8_, Q_X9_, Q_X10_, Q_X11_, Q_X12_, Q_X13_⟩ hb_ hon hoff
      refine ⟨_, rfl, fun K hK => ?_⟩
      have e71 : a.tmps[71]? = some (v71_) := by rw [ha]; exact putSel_on (e := (4, 71, v71_)) 4 rfl rfl (hon 4 (by kernel_rfl)) rfl
      have e73 : a.tmps[73]? = some (.slice Am1 m.f0.length cm1) := by rw [ha]; exact putSel_on (e := (6, 73, .slice Am1 m.f0.length cm1)) 6 rfl rfl (hon 6 (by kernel_rfl)) rfl
      replace ha := Aside0.mk ha
      have HBr := Aside0.mk Q_HBr
      have RO71 := Aside0.mk (Q_RO71 (hon 4 (by kernel_rfl)) hb_)
      refine Kd.R_append_rows_step k37 (w0 := w5) w5.heap.size (by rfl) (.tmp 71) (.tmp 73) 23 37 _ _ rfl Try.underlying23 info37 rfl (by decide) (by decide) v71_ (k.f0) (m.f0) _ _ _ (fun _ => True) (fun _ => False) (by first | (go_simp; done) | (go_simp; rfl)) (by first | (go_simp; done) | (go_simp; rfl)) RO71.out (Kd.C_below M1.out (below_step HB.out HBr.out)) (fun _ _ h => h) (fun _ h => h.elim) (fun _ _ => trivial) HBr.out (below_size HBr.out) (by omega) ?_
      intro va_ w1 hR_ hB_ hg_ hat_
      refine hK.out _ _ ⟨v68_, v71_, va_, a75_, b75_, m8_, m9_, m10_, m11_, m12_, m13_, (by rw [ha.out]; exact putSel_upk 7 hb_ rfl rfl rfl), hB_, fun _ h1_ => absurd ((hon 4 (by kernel_rfl)).symm.trans h1_) (by decide), fun _ h1_ => absurd ((up_self b 7).symm.trans h1_) (by decide), fun _ => hR_, fun h0_ => absurd ((hoff 8 (by kernel_rfl)).symm.trans h0_) (by decide), fun h0_ => absurd ((hoff 8 (by kernel_rfl)).symm.trans h0_) (by decide), fun h0_ => absurd ((hoff 9 (by kernel_rfl)).symm.trans h0_) (by decide), fun h0_ => absurd ((hoff 10 (by kernel_rfl)).symm.trans h0_) (by decide), fun h0_ => absurd ((hoff 11 (by kernel_rfl)).symm.trans h0_) (by decide), fun h0_ => absurd ((hoff 12 (by kernel_rfl)).symm.trans h0_) (by decide), fun h0_ => absurd ((hoff 13 (by kernel_rfl)).symm.trans h0_) (by decide)⟩
    refine steps_cons ?_ ?_
    · rintro b a w' ⟨v68_, v71_, v74_, a75_, b75_, m8_, m9_, m10_, m11_, m12_, m13_, ha, Q_HBr, Q_RO68, Q_RO71, Q_RO74, Q_RA75, Q_X8_, Q_X9_, Q_X10_, Q_X11_, Q_X12_, Q_X13_⟩ hb_ hon hoff
      refine ⟨_, rfl, fun K hK => ?_⟩
      have e67 : a.tmps[67]? = some (.slice A l.length c) := by rw [ha]; exact putSel_on (e := (0, 67, .slice A l.length c)) 0 rfl rfl (hon 0 (by kernel_rfl)) rfl
      have e74 : a.tmps[74]? = some (v74_) := by rw [ha]; exact putSel_on (e := (7, 74, v74_)) 7 rfl rfl (hon 7 (by kernel_rfl)) rfl
      replace ha := Aside0.mk ha
      have HBr := Aside0.mk Q_HBr
      have RO74 := Aside0.mk (Q_RO74 (hon 7 (by kernel_rfl)))
      refine goes_ Try.func11 (by kernel_rfl) rfl #[.slice A l.length c, v74_] (by rfl) rfl rfl (by first | (simp only [List.map_toArray, List.map_cons, List.map_nil, Act.eval, Array.getD_eq_getD_getElem?, Option.getD_some, e67, e74]; done) | (simp only [List.map_toArray, List.map_cons, List.map_nil, Act.eval, Array.getD_eq_getD_getElem?, Option.getD_some, e67, e74]; rfl)) ?_
      refine (Slots_s (Sl_mk (Kd.C_below CA.out (below_step HB.out HBr.out)) hc) (by omega) (Sl_sc (Sl_R RO74.out))).mono ?_
      rintro e w1 ⟨v1, v2, rfl, hr1, hr2, hb1⟩
      refine ⟨_, rfl, ?_⟩
      refine hK.out _ _ ⟨v68_, v71_, v74_, v1, v2, (.tuple #[v1, v2]), m9_, m10_, m11_, m12_, m13_, (by rw [ha.out]; exact putSel_upk 8 hb_ rfl rfl rfl), below_step HBr.out hb1, fun _ h1_ => absurd ((hon 4 (by kernel_rfl)).symm.trans h1_) (by decide), fun _ h1_ => absurd ((hon 7 (by kernel_rfl)).symm.trans h1_) (by decide), fun _ => Kd.R_below RO74.out hb1, fun _ => hr1, fun _ => rfl, fun h0_ => absurd ((hoff 9 (by kernel_rfl)).symm.trans h0_) (by decide), fun h0_ => absurd ((hoff 10 (by kernel_rfl)).symm.trans h0_) (by decide), fun h0_ => absurd ((hoff 11 (by kernel_rfl)).symm.trans h0_) (by decide), fun h0_ => absurd ((hoff 12 (by kernel_rfl)).symm.trans h0_) (by decide), fun h0_ => absurd ((hoff 13 (by kernel_rfl)).symm.trans h0_) (by decide)⟩
    refine steps_cons ?_ ?_
    · rintro b a w' ⟨v68_, v71_, v74_, a75_, b75_, m8_, m9_, m10_, m11_, m12_, m13_, ha, Q_HBr, Q_RO68, Q_RO71, Q_RO74, Q_RA75, Q_X8_, Q_X9_, Q_X10_, Q_X11_, Q_X12_, Q_X13_⟩ hb_ hon hoff
      refine ⟨_, rfl, fun K hK => ?_⟩
      have e75 : a.tmps[75]? = some (m8_) := by rw [ha]; exact putSel_on (e := (8, 75, m8_)) 8 rfl rfl (hon 8 (by kernel_rfl)) rfl
      rw [Q_X8_ (hon 8 (by kernel_rfl))] at e75
      replace ha := Aside0.mk ha
      have HBr := Aside0.mk Q_HBr
      have RO74 := Aside0.mk (Q_RO74 (hon 7 (by kernel_rfl)))
      have RA75 := Aside0.mk (Q_RA75 (hon 8 (by kernel_rfl)))
      refine value_ (w1 := w') (v := .tuple #[a75_, b75_]) (by rfl) rfl ?_ ?_
      · go_simp
        (try simp only [i64_w])
        try rfl
      refine hK.out _ _ ⟨v68_, v71_, v74_, a75_, b75_, m8_, (.tuple #[a75_, b75_]), m10_, m11_, m12_, m13_, (by rw [ha.out]; exact putSel_upk 9 hb_ rfl rfl rfl), Q_HBr, fun _ h1_ => absurd ((hon 4 (by kernel_rfl)).symm.trans h1_) (by decide), fun _ h1_ => absurd ((hon 7 (by kernel_rfl)).symm.trans h1_) (by decide), Q_RO74, Q_RA75, Q_X8_, fun _ => rfl, fun h0_ => absurd ((hoff 10 (by kernel_rfl)).symm.trans h0_) (by decide), fun h0_ => absurd ((hoff 11 (by kernel_rfl)).symm.trans h0_) (by decide), fun h0_ => absurd ((hoff 12 (by kernel_rfl)).symm.trans h0_) (by decide), fun h0_ => absurd ((hoff 13 (by kernel_rfl)).symm.trans h0_) (by decide)⟩
    refine steps_cons ?_ ?_
    · rintro b a w' ⟨v68_, v71_, v74_, a75_, b75_, m8_, m9_, m10_, m11_, m12_, m13_, ha, Q_HBr, Q_RO68, Q_RO71, Q_RO74, Q_RA75, Q_X8_, Q_X9_, Q_X10_, Q_X11_, Q_X12_, Q_X13_⟩ hb_ hon hoff
      refine ⟨_, rfl, fun K hK => ?_⟩
      have e66 : a.tmps[66]? = some (m9_) := by rw [ha]; exact putSel_on (e := (9, 66, m9_)) 9 rfl rfl (hon 9 (by kernel_rfl)) rfl
      rw [Q_X9_ (hon 9 (by kernel_rfl))] at e66
      replace ha := Aside0.mk ha
      have HBr := Aside0.mk Q_HBr
      have RO74 := Aside0.mk (Q_RO74 (hon 7 (by kernel_rfl)))
      have RA75 := Aside0.mk (Q_RA75 (hon 8 (by kernel_rfl)))
      refine value_ (w1 := w') (v := a75_) (by rfl) rfl ?_ ?_
      · go_simp
        (try simp only [i64_w])
        try rfl
      refine hK.out _ _ ⟨v68_, v71_, v74_, a75_, b75_, m8_, m9_, (a75_), m11_, m12_, m13_, (by rw [ha.out]; exact putSel_upk 10 hb_ rfl rfl rfl), Q_HBr, fun _ h1_ => absurd ((hon 4 (by kernel_rfl)).symm.trans h1_) (by decide), fun _ h1_ => absurd ((hon 7 (by kernel_rfl)).symm.trans h1_) (by decide), Q_RO74, Q_RA75, Q_X8_, Q_X9_, fun _ => rfl, Q_X11_, fun h0_ => absurd ((hoff 12 (by kernel_rfl)).symm.trans h0_) (by decide), fun h0_ => absurd ((hoff 13 (by kernel_rfl)).symm.trans h0_) (by decide)⟩
    refine steps_cons ?_ ?_
    · rintro b a w' ⟨v68_, v71_, v74_, a75_, b75_, m8_, m9_, m10_, m11_, m12_, m13_, ha, Q_HBr, Q_RO68, Q_RO71, Q_RO74, Q_RA75, Q_X8_, Q_X9_, Q_X10_, Q_X11_, Q_X12_, Q_X13_⟩ hb_ hon hoff
      refine ⟨_, rfl, fun K hK => ?_⟩
      have e66 : a.tmps[66]? = some (m9_) := by rw [ha]; exact putSel_on (e := (9, 66, m9_)) 9 rfl rfl (hon 9 (by kernel_rfl)) rfl
      rw [Q_X9_ (hon 9 (by kernel_rfl))] at e66
      replace ha := Aside0.mk ha
      have HBr := Aside0.mk Q_HBr
      have RO74 := Aside0.mk (Q_RO74 (hon 7 (by kernel_rfl)))
      have RA75 := Aside0.mk (Q_RA75 (hon 8 (by kernel_rfl)))
      refine value_ (w1 := w') (v := b75_) (by rfl) rfl ?_ ?_
      · go_simp
        (try simp only [i64_w])
        try rfl
      refine hK.out _ _ ⟨v68_, v71_, v74_, a75_, b75_, m8_, m9_, m10_, (b75_), m12_, m13_, (by rw [ha.out]; exact putSel_upk 11 hb_ rfl rfl rfl), Q_HBr, fun _ h1_ => absurd ((hon 4 (by kernel_rfl)).symm.trans h1_) (by decide), fun _ h1_ => absurd ((hon 7 (by kernel_rfl)).symm.trans h1_) (by decide), Q_RO74, Q_RA75, Q_X8_, Q_X9_, Q_X10_, fun _ => rfl, Q_X12_, fun h0_ => absurd ((hoff 13 (by kernel_rfl)).symm.trans h0_) (by decide)⟩
    refine steps_cons ?_ ?_
    · rintro b a w' ⟨v68_, v71_, v74_, a75_, b75_, m8_, m9_, m10_, m11_, m12_, m13_, ha, Q_HBr, Q_RO68, Q_RO71, Q_RO74, Q_RA75, Q_X8_, Q_X9_, Q_X10_, Q_X11_, Q_X12_, Q_X13_⟩ hb_ hon hoff
      refine ⟨_, rfl, fun K hK => ?_⟩
      have e76 : a.tmps[76]? = some (m10_) := by rw [ha]; exact putSel_on (e := (10, 76, m10_)) 10 rfl rfl (hon 10 (by kernel_rfl)) rfl
      rw [Q_X10_ (hon 10 (by kernel_rfl))] at e76
      replace ha := Aside0.mk ha
      have HBr := Aside0.mk Q_HBr
      have RO74 := Aside0.mk (Q_RO74 (hon 7 (by kernel_rfl)))
      have RA75 := Aside0.mk (Q_RA75 (hon 8 (by kernel_rfl)))
      refine value_ (w1 := w') (v := a75_) (by rfl) rfl ?_ ?_
      · go_simp
        (try simp only [i64_w])
        try rfl
      refine hK.out _ _ ⟨v68_, v71_, v74_, a75_, b75_, m8_, m9_, m10_, m11_, (a75_), m13_, (by rw [ha.out]; exact putSel_upk 12 hb_ rfl rfl rfl), Q_HBr, fun _ h1_ => absurd ((hon 4 (by kernel_rfl)).symm.trans h1_) (by decide), fun _ h1_ => absurd ((hon 7 (by kernel_rfl)).symm.trans h1_) (by decide), Q_RO74, Q_RA75, Q_X8_, Q_X9_, Q_X10_, Q_X11_, fun _ => rfl, fun h0_ => absurd ((hoff 13 (by kernel_rfl)).symm.trans h0_) (by decide)⟩
    refine steps_cons ?_ ?_
    · rintro b a w' ⟨v68_, v71_, v74_, a75_, b75_, m8_, m9_, m10_, m11_, m12_, m13_, ha, Q_HBr, Q_RO68, Q_RO71, Q_RO74, Q_RA75, Q_X8_, Q_X9_, Q_X10_, Q_X11_, Q_X12_, Q_X13_⟩ hb_ hon hoff
      refine ⟨_, rfl, fun K hK => ?_⟩
      have e77 : a.tmps[77]? = some (m11_) := by rw [ha]; exact putSel_on (e := (11, 77, m11_)) 11 rfl rfl (hon 11 (by kernel_rfl)) rfl
      rw [Q_X11_ (hon 11 (by kernel_rfl))] at e77
      replace ha := Aside0.mk ha
      have HBr := Aside0.mk Q_HBr
      have RO74 := Aside0.mk (Q_RO74 (hon 7 (by kernel_rfl)))
      have RA75 := Aside0.mk (Q_RA75 (hon 8 (by kernel_rfl)))
      refine value_ (w1 := w') (v := b75_) (by rfl) rfl ?_ ?_
      · go_simp
        (try simp only [i64_w])
        try rfl
      refine hK.out _ _ ⟨v68_, v71_, v74_, a75_, b75_, m8_, m9_, m10_, m11_, m12_, (b75_), (by rw [ha.out]; exact putSel_upk 13 hb_ rfl rfl rfl), Q_HBr, fun _ h1_ => absurd ((hon 4 (by kernel_rfl)).symm.trans h1_) (by decide), fun _ h1_ => absurd ((hon 7 (by kernel_rfl)).symm.trans h1_) (by decide), Q_RO74, Q_RA75, Q_X8_, Q_X9_, Q_X10_, Q_X11_, Q_X12_, fun _ => rfl⟩
    exact steps_nil
  rintro b a w' hall ⟨v68_, v71_, v74_, a75_, b75_, m8_, m9_, m10_, m11_, m12_, m13_, ha, Q_HBr, Q_RO68, Q_RO71, Q_RO74, Q_RA75, Q_X8_, Q_X9_, Q_X10_, Q_X11_, Q_X12_, Q_X13_⟩
  clear HBr
  have hb0_ := hall 0 (by kernel_rfl)
  have hb1_ := hall 1 (by kernel_rfl)
  have hb2_ := hall 2 (by kernel_rfl)
  have hb3_ := hall 3 (by kernel_rfl)
  have hb4_ := hall 4 (by kernel_rfl)
  have hb5_ := hall 5 (by kernel_rfl)
  have hb6_ := hall 6 (by kernel_rfl)
  have hb7_ := hall 7 (by kernel_rfl)
  have hb8_ := hall 8 (by kernel_rfl)
  have hb9_ := hall 9 (by kernel_rfl)
  have hb10_ := hall 10 (by kernel_rfl)
  have hb11_ := hall 11 (by kernel_rfl)
  have hb12_ := hall 12 (by kernel_rfl)
  have hb13_ := hall 13 (by kernel_rfl)
  subst ha
  obtain rfl := Q_X8_ hb8_
  obtain rfl := Q_X9_ hb9_
  obtain rfl := Q_X10_ hb10_
  obtain rfl := Q_X11_ hb11_
  obtain rfl := Q_X12_ hb12_
  obtain rfl := Q_X13_ hb13_
  simp only [putSel, hb0_, hb1_, hb2_, hb3_, hb4_, hb5_, hb6_, hb7_, hb8_, hb9_, hb10_, hb11_, hb12_, hb13_, if_true, Act.put, List.setIfInBounds_toArray, List.set_cons_zero, List.set_cons_succ]
  have HBr := Aside0.mk Q_HBr
  clear Q_HBr
  clear Q_RO68
  clear Q_RO71
  have RO74 := Aside0.mk (Q_RO74 hb7_)
  clear Q_RO74
  have RA75 := Aside0.mk (Q_RA75 hb8_)
  clear Q_RA75
  clear hall hb0_ hb1_ hb2_ hb3_ hb4_ hb5_ hb6_ hb7_ hb8_ hb9_ hb10_ hb11_ hb12_ hb13_
  obtain ⟨w6, rfl⟩ : ∃ z : World, z = w' := ⟨_, rfl⟩
  replace XK := Aside0.mk (blk_below HBr.out XK.out)
  replace XM := Aside0.mk (blk_below HBr.out XM.out)
  replace RA63 := Aside0.mk (Sl_below RA63.out HBr.out)
  replace HB := Aside0.mk (below_step HB.out HBr.out)
  clear HBr
  have x_XK0 : w6.cell? ⟨w.heap.size, 0, none⟩ = some (.slice Ak1 k.f0.length ck1) := (blk_cell XK.out 0).trans rfl
  have x_XK1 : w6.cell? ⟨w.heap.size, 1, none⟩ = some (.slice Ak2 k.f1.length ck2) := (blk_cell XK.out 1).trans rfl
  have x_XK2 : w6.cell? ⟨w.heap.size, 2, none⟩ = some (.slice Ak3 k.f2.length ck3) := (blk_cell XK.out 2).trans rfl
  have x_XK3 : w6.cell? ⟨w.heap.size, 3, none⟩ = some (.int .i64 k.f3) := (blk_cell XK.out 3).trans rfl
  go_wp2_with fail
  refine (Eras_s (Sl_mk (Kd.C_below CA.out HB.out) hc) (by omega) (Sc_mk (Kd.C_below K2.out HB.out))).mono ?_
  rintro e w7 ⟨a82_, b82_, rfl, RA82, _, hb⟩
  clear x_XK0 x_XK1 x_XK2 x_XK3
  replace XK := Aside0.mk (blk_below hb XK.out)
  replace XM := Aside0.mk (blk_below hb XM.out)
  replace RA63 := Aside0.mk (Sl_below RA63.out hb)
  replace RA75 := Aside0.mk (Sl_below RA75.out hb)
  replace HB := Aside0.mk (below_step HB.out hb)
  clear hb
  replace RA82 := Aside0.mk RA82
  go_wp2
  refine start_ (n := 14) (S := fun w' => True) (ds := []) #[false, false, false, false, false, false, false, false, false, false, false, false, false, false] (by kernel_rfl) rfl rfl trivial (fun hHeld => ?_)
  refine with_tabW more.tab8 more.bits8 (fun HT_ HW_ => ?_)
  have HBr := Aside0.mk (below_drew1 (Below.refl w7.heap.size w7))
  refine inv_at [0, 1, 2, 3, 4, 5, 6, 7, 8, 9, 10, 11, 12, 13] (fun a0_ b a w' => ∃ (v87_ : Value) (v90_ : Value) (v93_ : Value) (a94_ : Value) (b94_ : Value) (m8_ : Value) (m9_ : Value) (m10_ : Value) (m11_ : Value) (m12_ : Value) (m13_ : Value), a = putSel a0_ b [(0, 86, .slice A l.length c), (1, 87, v87_), (2, 88, .pointer (some ⟨w.heap.size, 1, none⟩)), (3, 89, .slice Ak2 k.f1.length ck2), (4, 90, v90_), (5, 91, .pointer (some ⟨w.heap.size + 1, 1, none⟩)), (6, 92, .slice Am2 m.f1.length cm2), (7, 93, v93_), (8, 94, m8_), (9, 85, m9_), (10, 95, m10_), (11, 96, m11_), (12, 13, m12_), (13, 14, m13_)] ∧ (Below w7.heap.size w7 w') ∧ (b 1 = true → b 4 = false → Kd.R (Kd.int .i64) 3 w' w7.heap.size (fun _ => True) v87_ []) ∧ (b 4 = true → b 7 = false → Kd.R (Kd.int .i64) 3 w' w7.heap.size (fun _ => True) v90_ (k.f1)) ∧ (b 7 = true → Kd.R (Kd.int .i64) 3 w' w7.heap.size (fun _ => True) v93_ (k.f1 ++ m.f1)) ∧ (b 8 = true → Sl k39 w' a94_ (l.filter fun x => !erB (k.f1 ++ m.f1) x)) ∧ (b 8 = true → (m8_ : Value) = .tuple #[a94_, b94_]) ∧ (b 9 = true → (m9_ : Value) = .tuple #[a94_, b94_]) ∧ (b 10 = true → (m10_ : Value) = a94_) ∧ (b 11 = true → (m11_ : Value) = b94_) ∧ (b 12 = true → (m12_ : Value) = a94_) ∧ (b 13 = true → (m13_ : Value) = b94_)) HT_.out HW_.out (by kernel_rfl) (by kernel_rfl) ?_ ?_ ?_
  · exact ⟨.bool false, .bool false, .bool false, .bool false, .bool false, .bool false, .bool false, .bool false, .bool false, .bool false, .bool false, by simp only [putSel, Bool.false_eq_true, if_false], HBr.out, fun h_ => absurd h_ (by decide), fun h_ => absurd h_ (by decide), fun h_ => absurd h_ (by decide), fun h_ => absurd h_ (by decide), fun h_ => absurd h_ (by decide), fun h_ => absurd h_ (by decide), fun h_ => absurd h_ (by decide), fun h_ => absurd h_ (by decide), fun h_ => absurd h_ (by decide), fun h_ => absurd h_ (by decide)⟩
  · skip
    clear HBr
    refine steps_cons ?_ ?_
    · rintro b a w' ⟨v87_, v90_, v93_, a94_, b94_, m8_, m9_, m10_, m11_, m12_, m13_, ha, Q_HBr, Q_RO87, Q_RO90, Q_RO93, Q_RA94, Q_X8_, Q_X9_, Q_X10_, Q_X11_, Q_X12_, Q_X13_⟩ hb_ hon hoff
      refine ⟨_, rfl, fun K hK => ?_⟩
      have e0 : a.tmps[0]? = some (.slice A l.length c) := by rw [ha]; exact (putSel_off rfl).trans rfl
      replace ha := Aside0.mk ha
      have HBr := Aside0.mk Q_HBr
      refine value_ (w1 := w') (v := .slice A l.length c) (by rfl) rfl ?_ ?_
      · go_simp
        (try simp only [i64_w])
        try rfl
      refine hK.out _ _ ⟨v87_, v90_, v93_, a94_, b94_, m8_, m9_, m10_, m11_, m12_, m13_, (by rw [ha.out]; exact putSel_upk 0 hb_ rfl rfl rfl), Q_HBr, Q_RO87, Q_RO90, Q_RO93, fun h0_ => absurd ((hoff 8 (by kernel_rfl)).symm.trans h0_) (by decide), fun h0_ => absurd ((hoff 8 (by kernel_rfl)).symm.trans h0_) (by decide), fun h0_ => absurd ((hoff 9 (by kernel_rfl)).symm.trans h0_) (by decide), fun h0_ => absurd ((hoff 10 (by kernel_rfl)).symm.trans h0_) (by decide), fun h0_ => absurd ((hoff 11 (by kernel_rfl)).symm.trans h0_) (by decide), fun h0_ => absurd ((hoff 12 (by kernel_rfl)).symm.trans h0_) (by decide), fun h0_ => absurd ((hoff 13 (by kernel_rfl)).symm.trans h0_) (by decide)⟩
    refine steps_cons ?_ ?_
    · rintro b a w' ⟨v87_, v90_, v93_, a94_, b94_, m8_, m9_, m10_, m11_, m12_, m13_, ha, Q_HBr, Q_RO87, Q_RO90, Q_RO93, Q_RA94, Q_X8_, Q_X9_, Q_X10_, Q_X11_, Q_X12_, Q_X13_⟩ hb_ hon hoff
      refine ⟨_, rfl, fun K hK => ?_⟩
      replace ha := Aside0.mk ha
      have HBr := Aside0.mk Q_HBr
      refine event_step (w1 := w'.alloc (.cells #[] 3)) (v := .slice (some ⟨w'.heap.size, 0, none⟩) 0 0) (by rfl) ?_ ?_
      · go_simp
        try rfl
      refine hK.out _ _ ⟨.slice (some ⟨w'.heap.size, 0, none⟩) 0 0, v90_, v93_, a94_, b94_, m8_, m9_, m10_, m11_, m12_, m13_, (by rw [ha.out]; exact putSel_upk 1 hb_ rfl rfl rfl), below_step HBr.out (below_alloc (Below.refl w'.heap.size w') _), fun _ _ => R_lit_alloc (Kd.int .i64) 3 w' (below_size HBr.out) (xs := []) (inner := []) (Reps.none _ _) (by simp), fun h0_ _ => absurd ((hoff 4 (by kernel_rfl)).symm.trans h0_) (by decide), fun h0_ => absurd ((hoff 7 (by kernel_rfl)).symm.trans h0_) (by decide), fun h0_ => absurd ((hoff 8 (by kernel_rfl)).symm.trans h0_) (by decide), fun h0_ => absurd ((hoff 8 (by kernel_rfl)).symm.trans h0_) (by decide), fun h0_ => absurd ((hoff 9 (by kernel_rfl)).symm.trans h0_) (by decide), fun h0_ => absurd ((hoff 10 (by kernel_rfl)).symm.trans h0_) (by decide), fun h0_ => absurd ((hoff 11 (by kernel_rfl)).symm.trans h0_) (by decide), fun h0_ => absurd ((hoff 12 (by kernel_rfl)).symm.trans h0_) (by decide), fun h0_ => absurd ((hoff 13 (by kernel_rfl)).symm.trans h0_) (by decide)⟩
    refine steps_cons ?_ ?_
    · rintro b a w' ⟨v87_, v90_, v93_, a94_, b94_, m8_, m9_, m10_, m11_, m12_, m13_, ha, Q_HBr, Q_RO87, Q_RO90, Q_RO93, Q_RA94, Q_X8_, Q_X9_, Q_X10_, Q_X11_, Q_X12_, Q_X13_⟩ hb_ hon hoff
      refine ⟨_, rfl, fun K hK => ?_⟩
      have e4 : a.tmps[4]? = some (.pointer (some ⟨w.heap.size, 0, none⟩)) := by rw [ha]; exact (putSel_off rfl).trans rfl
      replace ha := Aside0.mk ha
      have HBr := Aside0.mk Q_HBr
      refine value_ (w1 := w') (v := .pointer (some ⟨w.heap.size, 1, none⟩)) (by rfl) rfl ?_ ?_
      · go_simp
        (try simp only [i64_w])
        try rfl
      refine hK.out _ _ ⟨v87_, v90_, v93_, a94_, b94_, m8_, m9_, m10_, m11_, m12_, m13_, (by rw [ha.out]; exact putSel_upk 2 hb_ rfl rfl rfl), Q_HBr, Q_RO87, fun h0_ _ => absurd ((hoff 4 (by kernel_rfl)).symm.trans h0_) (by decide), fun h0_ => absurd ((hoff 7 (by kernel_rfl)).symm.trans h0_) (by decide), fun h0_ => absurd ((hoff 8 (by kernel_rfl)).symm.trans h0_) (by decide), fun h0_ => absurd ((hoff 8 (by kernel_rfl)).symm.trans h0_) (by decide), fun h0_ => absurd ((hoff 9 (by kernel_rfl)).symm.trans h0_) (by decide), fun h0_ => absurd ((hoff 10 (by kernel_rfl)).symm.trans h0_) (by decide), fun h0_ => absurd ((hoff 11 (by kernel_rfl)).symm.trans h0_) (by decide), fun h0_ => absurd ((hoff 12 (by kernel_rfl)).symm.trans h0_) (by decide), fun h0_ => absurd ((hoff 13 (by kernel_rfl)).symm.trans h0_) (by decide)⟩
    refine steps_cons ?_ ?_
    · rintro b a w' ⟨v87_, v90_, v93_, a94_, b94_, m8_, m9_, m10_, m11_, m12_, m13_, ha, Q_HBr, Q_RO87, Q_RO90, Q_RO93, Q_RA94, Q_X8_, Q_X9_, Q_X10_, Q_X11_, Q_X12_, Q_X13_⟩ hb_ hon hoff
      refine ⟨_, rfl, fun K hK => ?_⟩
      have e88 : a.tmps[88]? = some (.pointer (some ⟨w.heap.size, 1, none⟩)) := by rw [ha]; exact putSel_on (e := (2, 88, .pointer (some ⟨w.heap.size, 1, none⟩))) 2 rfl rfl (hon 2 (by kernel_rfl)) rfl
      replace ha := Aside0.mk ha
      have HBr := Aside0.mk Q_HBr
      have z1_ : w'.cell? ⟨w.heap.size, 1, none⟩ = some (.slice Ak2 k.f1.length ck2) := (blk_cell (blk_below HBr.out XK.out) 1).trans rfl
      refine value_ (w1 := w') (v := .slice Ak2 k.f1.length ck2) (by rfl) rfl ?_ ?_
      · go_simp
        (try simp only [i64_w])
        try rfl
      refine hK.out _ _ ⟨v87_, v90_, v93_, a94_, b94_, m8_, m9_, m10_, m11_, m12_, m13_, (by rw [ha.out]; exact putSel_upk 3 hb_ rfl rfl rfl), Q_HBr, Q_RO87, fun h0_ _ => absurd ((hoff 4 (by kernel_rfl)).symm.trans h0_) (by decide), fun h0_ => absurd ((hoff 7 (by kernel_rfl)).symm.trans h0_) (by decide), fun h0_ => absurd ((hoff 8 (by kernel_rfl)).symm.trans h0_) (by decide), fun h0_ => absurd ((hoff 8 (by kernel_rfl)).symm.trans h0_) (by decide), fun h0_ => absurd ((hoff 9 (by kernel_rfl)).symm.trans h0_) (by decide), fun h0_ => absurd ((hoff 10 (by kernel_rfl)).symm.trans h0_) (by decide), fun h0_ => absurd ((hoff 11 (by kernel_rfl)).symm.trans h0_) (by decide), fun h0_ => absurd ((hoff 12 (by kernel_rfl)).symm.trans h0_) (by decide), fun h0_ => absurd ((hoff 13 (by kernel_rfl)).symm.trans h0_) (by decide)⟩
    refine steps_cons ?_ ?_
    · rintro b a w' ⟨v87_, v90_, v93_, a94_, b94_, m8_, m9_, m10_, m11_, m12_, m13_, ha, Q_HBr, Q_RO87, Q_RO90, Q_RO93, Q_RA94, Q_X8_, Q_X9_, Q_X10_, Q_X11_, Q_X12_, Q_X13_⟩ hb_ hon hoff
      refine ⟨_, rfl, fun K hK => ?_⟩
      have e87 : a.tmps[87]? = some (v87_) := by rw [ha]; exact putSel_on (e := (1, 87, v87_)) 1 rfl rfl (hon 1 (by kernel_rfl)) rfl
      have e89 : a.tmps[89]? = some (.slice Ak2 k.f1.length ck2) := by rw [ha]; exact putSel_on (e := (3, 89, .slice Ak2 k.f1.length ck2)) 3 rfl rfl (hon 3 (by kernel_rfl)) rfl
      replace ha := Aside0.mk ha
      have HBr := Aside0.mk Q_HBr
      have RO87 := Aside0.mk (Q_RO87 (hon 1 (by kernel_rfl)) hb_)
      refine Kd.R_append_rows_step (Kd.int .i64) (w0 := w7) w7.heap.size (by rfl) (.tmp 87) (.tmp 89) 24 3 _ _ rfl Try.underlying24 info3 rfl (by decide) (by decide) v87_ (([] : List Int)) (k.f1) _ _ _ (fun _ => True) (fun _ => False) (by first | (go_simp; done) | (go_simp; rfl)) (by first | (go_simp; done) | (go_simp; rfl)) RO87.out (Kd.C_below K2.out (below_step HB.out HBr.out)) (fun _ _ h => h) (fun _ h => h.elim) (fun _ _ => trivial) HBr.out (below_size HBr.out) (by simp; omega) ?_
      intro va_ w1 hR_ hB_ hg_ hat_
      refine hK.out _ _ ⟨v87_, va_, v93_, a94_, b94_, m8_, m9_, m10_, m11_, m12_, m13_, (by rw [ha.out]; exact putSel_upk 4 hb_ rfl rfl rfl), hB_, fun _ h1_ => absurd ((up_self b 4).symm.trans h1_) (by decide), fun _ _ => hR_, fun h0_ => absurd ((hoff 7 (by kernel_rfl)).symm.trans h0_) (by decide), fun h0_ => absurd ((hoff 8 (by kernel_rfl)).symm.trans h0_) (by decide), fun h0_ => absurd ((hoff 8 (by kernel_rfl)).symm.trans h0_) (by decide), fun h0_ => absurd ((hoff 9 (by kernel_rfl)).symm.trans h0_) (by decide), fun h0_ => absurd ((hoff 10 (by kernel_rfl)).symm.trans h0_) (by decide), fun h0_ => absurd ((hoff 11 (by kernel_rfl)).symm.trans h0_) (by decide), fun h0_ => absurd ((hoff 12 (by kernel_rfl)).symm.trans h0_) (by decide), fun h0_ => absurd ((hoff 13 (by kernel_rfl)).symm.trans h0_) (by decide)⟩
    refine steps_cons ?_ ?_
    · rintro b a w' ⟨v87_, v90_, v93_, a94_, b94_, m8_, m9_, m10_, m11_, m12_, m13_, ha, Q_HBr, Q_RO87, Q_RO90, Q_RO93, Q_RA94, Q_X8_, Q_X9_, Q_X10_, Q_X11_, Q_X12_, Q_X13_⟩ hb_ hon hoff
      refine ⟨_, rfl, fun K hK => ?_⟩
      have e5 : a.tmps[5]? = some (.pointer (some ⟨w.heap.size + 1, 0, none⟩)) := by rw [ha]; exact (putSel_off rfl).trans rfl
      replace ha := Aside0.mk ha
      have HBr := Aside0.mk Q_HBr
      refine value_ (w1 := w') (v := .pointer (some ⟨w.heap.size + 1, 1, none⟩)) (by rfl) rfl ?_ ?_
      · go_simp
        (try simp only [i64_w])
        try rfl
      refine hK.out _ _ ⟨v87_, v90_, v93_, a94_, b94_, m8_, m9_, m10_, m11_, m12_, m13_, (by rw [ha.out]; exact putSel_upk 5 hb_ rfl rfl rfl), Q_HBr, Q_RO87, Q_RO90, fun h0_ => absurd ((hoff 7 (by kernel_rfl)).symm.trans h0_) (by decide), fun h0_ => absurd ((hoff 8 (by kernel_rfl)).symm.trans h0_) (by decide), fun h0_ => absurd ((hoff 8 (by kernel_rfl)).symm.trans h0_) (by decide), fun h0_ => absurd ((hoff 9 (by kernel_rfl)).symm.trans h0_) (by decide), fun h0_ => absurd ((hoff 10 (by kernel_rfl)).symm.trans h0_) (by decide), fun h0_ => absurd ((hoff 11 (by kernel_rfl)).symm.trans h0_) (by decide), fun h0_ => absurd ((hoff 12 (by kernel_rfl)).symm.trans h0_) (by decide), fun h0_ => absurd ((hoff 13 (by kernel_rfl)).symm.trans h0_) (by decide)⟩
    refine steps_cons ?_ ?_
    · rintro b a w' ⟨v87_, v90_, v93_, a94_, b94_, m8_, m9_, m10_, m11_, m12_, m13_, ha, Q_HBr, Q_RO87, Q_RO90, Q_RO93, Q_RA94, Q_X8_, Q_X9_, Q_X10_, Q_X11_, Q_X12_, Q_X13_⟩ hb_ hon hoff
      refine ⟨_, rfl, fun K hK => ?_⟩
      have e91 : a.tmps[91]? = some (.pointer (some ⟨w.heap.size + 1, 1, none⟩)) := by rw [ha]; exact putSel_on (e := (5, 91, .pointer (some ⟨w.heap.size + 1, 1, none⟩))) 5 rfl rfl (hon 5 (by kernel_rfl)) rfl
      replace ha := Aside0.mk ha
      have HBr := Aside0.mk Q_HBr
      have z1_ : w'.cell? ⟨w.heap.size + 1, 1, none⟩ = some (.slice Am2 m.f1.length cm2) := (blk_cell (blk_below HBr.out XM.out) 1).trans rfl
      refine value_ (w1 := w') (v := .slice Am2 m.f1.length cm2) (by rfl) rfl ?_ ?_
      · go_simp
        (try simp only [i64_w])
        try rfl
      refine hK.out _ _ ⟨v87_, v90_, v93_, a94_, b94_, m8_, m9_, m10_, m11_, m12_, m13_, (by rw [ha.out]; exact putSel_upk 6 hb_ rfl rfl rfl), Q_HBr, Q_RO87, Q_RO90, fun h0_ => absurd ((hoff 7 (by kernel_rfl)).symm.trans h0_) (by decide), fun h0_ => absurd ((hoff 8 (by kernel_rfl)).symm.trans h0_) (by decide), fun h0_ => absurd ((hoff 8 (by kernel_rfl)).symm.trans h0_) (by decide), fun h0_ => absurd ((hoff 9 (by kernel_rfl)).symm.trans h0_) (by decide), fun h0_ => absurd ((hoff 10 (by kernel_rfl)).symm.trans h0_) (by decide), fun h0_ => absurd ((hoff 11 (by kernel_rfl)).symm.trans h0_) (by decide), fun h0_ => absurd ((hoff 12 (by kernel_rfl)).symm.trans h0_) (by decide), fun h0_ => absurd ((hoff 13 (by kernel_rfl)).symm.trans h0_) (by decide)⟩
    refine steps_cons ?_ ?_
    · rintro b a w' ⟨v87_, v90_, v93_, a94_, b94_, m8_, m9_, m10_, m11_, m12_, m13_, ha, Q_HBr, Q_RO87, Q_RO90, Q_RO93, Q_RA94, Q_X8_, Q_X9_, Q_X10_, Q_X11_, Q_X12_, Q_X13_⟩ hb_ hon hoff
      refine ⟨_, rfl, fun K hK => ?_⟩
      have e90 : a.tmps[90]? = some (v90_) := by rw [ha]; exact putSel_on (e := (4, 90, v90_)) 4 rfl rfl (hon 4 (by kernel_rfl)) rfl
      have e92 : a.tmps[92]? = some (.slice Am2 m.f1.length cm2) := by rw [ha]; exact putSel_on (e := (6, 92, .slice Am2 m.f1.length cm2)) 6 rfl rfl (hon 6 (by kernel_rfl)) rfl
      replace ha := Aside0.mk ha
      have HBr := Aside0.mk Q_HBr
      have RO90 := Aside0.mk (Q_RO90 (hon 4 (by kernel_rfl)) hb_)
      refine Kd.R_append_rows_step (Kd.int .i64) (w0 := w7) w7.heap.size (by rfl) (.tmp 90) (.tmp 92) 24 3 _ _ rfl Try.underlying24 info3 rfl (by decide) (by decide) v90_ (k.f1) (m.f1) _ _ _ (fun _ => True) (fun _ => False) (by first | (go_simp; done) | (go_simp; rfl)) (by first | (go_simp; done) | (go_simp; rfl)) RO90.out (Kd.C_below M2.out (below_step HB.out HBr.out)) (fun _ _ h => h) (fun _ h => h.elim) (fun _ _ => trivial) HBr.out (below_size HBr.out) (by omega) ?_
      intro va_ w1 hR_ hB_ hg_ hat_
      refine hK.out _ _ ⟨v87_, v90_, va_, a94_, b94_, m8_, m9_, m10_, m11_, m12_, m13_, (by rw [ha.out]; exact putSel_upk 7 hb_ rfl rfl rfl), hB_, fun _ h1_ => absurd ((hon 4 (by kernel_rfl)).symm.trans h1_) (by decide), fun _ h1_ => absurd ((up_self b 7).symm.trans h1_) (by decide), fun _ => hR_, fun h0_ => absurd ((hoff 8 (by kernel_rfl)).symm.trans h0_) (by decide), fun h0_ => absurd ((hoff 8 (by kernel_rfl)).symm.trans h0_) (by decide), fun h0_ => absurd ((hoff 9 (by kernel_rfl)).symm.trans h0_) (by decide), fun h0_ => absurd ((hoff 10 (by kernel_rfl)).symm.trans h0_) (by decide), fun h0_ => absurd ((hoff 11 (by kernel_rfl)).symm.trans h0_) (by decide), fun h0_ => absurd ((hoff 12 (by kernel_rfl)).symm.trans h0_) (by decide), fun h0_ => absurd ((hoff 13 (by kernel_rfl)).symm.trans h0_) (by decide)⟩
    refine steps_cons ?_ ?_
    · rintro b a w' ⟨v87_, v90_, v93_, a94_, b94_, m8_, m9_, m10_, m11_, m12_, m13_, ha, Q_HBr, Q_RO87, Q_RO90, Q_RO93, Q_RA94, Q_X8_, Q_X9_, Q_X10_, Q_X11_, Q_X12_, Q_X13_⟩ hb_ hon hoff
      refine ⟨_, rfl, fun K hK => ?_⟩
      have e86 : a.tmps[86]? = some (.slice A l.length c) := by rw [ha]; exact putSel_on (e := (0, 86, .slice A l.length c)) 0 rfl rfl (hon 0 (by kernel_rfl)) rfl
      have e93 : a.tmps[93]? = some (v93_) := by rw [ha]; exact putSel_on (e := (7, 93, v93_)) 7 rfl rfl (hon 7 (by kernel_rfl)) rfl
      replace ha := Aside0.mk ha
      have HBr := Aside0.mk Q_HBr
      have RO93 := Aside0.mk (Q_RO93 (hon 7 (by kernel_rfl)))
      refine goes_ Try.func12 (by kernel_rfl) rfl #[.slice A l.length c, v93_] (by rfl) rfl rfl (by first | (simp only [List.map_toArray, List.map_cons, List.map_nil, Act.eval, Array.getD_eq_getD_getElem?, Option.getD_some, e86, e93]; done) | (simp only [List.map_toArray, List.map_cons, List.map_nil, Act.eval, Array.getD_eq_getD_getElem?, Option.getD_some, e86, e93]; rfl)) ?_
      refine (Eras_s (Sl_mk (Kd.C_below CA.out (below_step HB.out HBr.out)) hc) (by omega) (Sl_sc (Sl_R RO93.out))).mono ?_
      rintro e w1 ⟨v1, v2, rfl, hr1, hr2, hb1⟩
      refine ⟨_, rfl, ?_⟩
      refine hK.out _ _ ⟨v87_, v90_, v93_, v1, v2, (.tuple #[v1, v2]), m9_, m10_, m11_, m12_, m13_, (by rw [ha.out]; exact putSel_upk 8 hb_ rfl rfl rfl), below_step HBr.out hb1, fun _ h1_ => absurd ((hon 4 (by kernel_rfl)).symm.trans h1_) (by decide), fun _ h1_ => absurd ((hon 7 (by kernel_rfl)).symm.trans h1_) (by decide), fun _ => Kd.R_below RO93.out hb1, fun _ => hr1, fun _ => rfl, fun h0_ => absurd ((hoff 9 (by kernel_rfl)).symm.trans h0_) (by decide), fun h0_ => absurd ((hoff 10 (by kernel_rfl)).symm.trans h0_) (by decide), fun h0_ => absurd ((hoff 11 (by kernel_rfl)).symm.trans h0_) (by decide), fun h0_ => absurd ((hoff 12 (by kernel_rfl)).symm.trans h0_) (by decide), fun h0_ => absurd ((hoff 13 (by kernel_rfl)).symm.trans h0_) (by decide)⟩
    refine steps_cons ?_ ?_
    · rintro b a w' ⟨v87_, v90_, v93_, a94_, b94_, m8_, m9_, m10_, m11_, m12_, m13_, ha, Q_HBr, Q_RO87, Q_RO90, Q_RO93, Q_RA94, Q_X8_, Q_X9_, Q_X10_, Q_X11_, Q_X12_, Q_X13_⟩ hb_ hon hoff
      refine ⟨_, rfl, fun K hK => ?_⟩
      have e94 : a.tmps[94]? = some (m8_) := by rw [ha]; exact putSel_on (e := (8, 94, m8_)) 8 rfl rfl (hon 8 (by kernel_rfl)) rfl
      rw [Q_X8_ (hon 8 (by kernel_rfl))] at e94
      replace ha := Aside0.mk ha
      have HBr := Aside0.mk Q_HBr
      have RO93 := Aside0.mk (Q_RO93 (hon 7 (by kernel_rfl)))
      have RA94 := Aside0.mk (Q_RA94 (hon 8 (by kernel_rfl)))
      refine value_ (w1 := w') (v := .tuple #[a94_, b94_]) (by rfl) rfl ?_ ?_
      · go_simp
        (try simp only [i64_w])
        try rfl
      refine hK.out _ _ ⟨v87_, v90_, v93_, a94_, b94_, m8_, (.tuple #[a94_, b94_]), m10_, m11_, m12_, m13_, (by rw [ha.out]; exact putSel_upk 9 hb_ rfl rfl rfl), Q_HBr, fun _ h1_ => absurd ((hon 4 (by kernel_rfl)).symm.trans h1_) (by decide), fun _ h1_ => absurd ((hon 7 (by kernel_rfl)).symm.trans h1_) (by decide), Q_RO93, Q_RA94, Q_X8_, fun _ => rfl, fun h0_ => absurd ((hoff 10 (by kernel_rfl)).symm.trans h0_) (by decide), fun h0_ => absurd ((hoff 11 (by kernel_rfl)).symm.trans h0_) (by decide), fun h0_ => absurd ((hoff 12 (by kernel_rfl)).symm.trans h0_) (by decide), fun h0_ => absurd ((hoff 13 (by kernel_rfl)).symm.trans h0_) (by decide)⟩
    refine steps_cons ?_ ?_
    · rintro b a w' ⟨v87_, v90_, v93_, a94_, b94_, m8_, m9_, m10_, m11_, m12_, m13_, ha, Q_HBr, Q_RO87, Q_RO90, Q_RO93, Q_RA94, Q_X8_, Q_X9_, Q_X10_, Q_X11_, Q_X12_, Q_X13_⟩ hb_ hon hoff
      refine ⟨_, rfl, fun K hK => ?_⟩
      have e85 : a.tmps[85]? = some (m9_) := by rw [ha]; exact putSel_on (e := (9, 85, m9_)) 9 rfl rfl (hon 9 (by kernel_rfl)) rfl
      rw [Q_X9_ (hon 9 (by kernel_rfl))] at e85
      replace ha := Aside0.mk ha
      have HBr := Aside0.mk Q_HBr
      have RO93 := Aside0.mk (Q_RO93 (hon 7 (by kernel_rfl)))
      have RA94 := Aside0.mk (Q_RA94 (hon 8 (by kernel_rfl)))
      refine value_ (w1 := w') (v := a94_) (by rfl) rfl ?_ ?_
      · go_simp
        (try simp only [i64_w])
        try rfl
      refine hK.out _ _ ⟨v87_, v90_, v93_, a94_, b94_, m8_, m9_, (a94_), m11_, m12_, m13_, (by rw [ha.out]; exact putSel_upk 10 hb_ rfl rfl rfl), Q_HBr, fun _ h1_ => absurd ((hon 4 (by kernel_rfl)).symm.trans h1_) (by decide), fun _ h1_ => absurd ((hon 7 (by kernel_rfl)).symm.trans h1_) (by decide), Q_RO93, Q_RA94, Q_X8_, Q_X9_, fun _ => rfl, Q_X11_, fun h0_ => absurd ((hoff 12 (by kernel_rfl)).symm.trans h0_) (by decide), fun h0_ => absurd ((hoff 13 (by kernel_rfl)).symm.trans h0_) (by decide)⟩
    refine steps_cons ?_ ?_
    · rintro b a w' ⟨v87_, v90_, v93_, a94_, b94_, m8_, m9_, m10_, m11_, m12_, m13_, ha, Q_HBr, Q_RO87, Q_RO90, Q_RO93, Q_RA94, Q_X8_, Q_X9_, Q_X10_, Q_X11_, Q_X12_, Q_X13_⟩ hb_ hon hoff
      refine ⟨_, rfl, fun K hK => ?_⟩
      have e85 : a.tmps[85]? = some (m9_) := by rw [ha]; exact putSel_on (e := (9, 85, m9_)) 9 rfl rfl (hon 9 (by kernel_rfl)) rfl
      rw [Q_X9_ (hon 9 (by kernel_rfl))] at e85
      replace ha := Aside0.mk ha
      have HBr := Aside0.mk Q_HBr
      have RO93 := Aside0.mk (Q_RO93 (hon 7 (by kernel_rfl)))
      have RA94 := Aside0.mk (Q_RA94 (hon 8 (by kernel_rfl)))
      refine value_ (w1 := w') (v := b94_) (by rfl) rfl ?_ ?_
      · go_simp
        (try simp only [i64_w])
        try rfl
      refine hK.out _ _ ⟨v87_, v90_, v93_, a94_, b94_, m8_, m9_, m10_, (b94_), m12_, m13_, (by rw [ha.out]; exact putSel_upk 11 hb_ rfl rfl rfl), Q_HBr, fun _ h1_ => absurd ((hon 4 (by kernel_rfl)).symm.trans h1_) (by decide), fun _ h1_ => absurd ((hon 7 (by kernel_rfl)).symm.trans h1_) (by decide), Q_RO93, Q_RA94, Q_X8_, Q_X9_, Q_X10_, fun _ => rfl, Q_X12_, fun h0_ => absurd ((hoff 13 (by kernel_rfl)).symm.trans h0_) (by decide)⟩
    refine steps_cons ?_ ?_
    · rintro b a w' ⟨v87_, v90_, v93_, a94_, b94_, m8_, m9_, m10_, m11_, m12_, m13_, ha, Q_HBr, Q_RO87, Q_RO90, Q_RO93, Q_RA94, Q_X8_, Q_X9_, Q_X10_, Q_X11_, Q_X12_, Q_X13_⟩ hb_ hon hoff
      refine ⟨_, rfl, fun K hK => ?_⟩
      have e95 : a.tmps[95]? = some (m10_) := by rw [ha]; exact putSel_on (e := (10, 95, m10_)) 10 rfl rfl (hon 10 (by kernel_rfl)) rfl
      rw [Q_X10_ (hon 10 (by kernel_rfl))] at e95
      replace ha := Aside0.mk ha
      have HBr := Aside0.mk Q_HBr
      have RO93 := Aside0.mk (Q_RO93 (hon 7 (by kernel_rfl)))
      have RA94 := Aside0.mk (Q_RA94 (hon 8 (by kernel_rfl)))
      refine value_ (w1 := w') (v := a94_) (by rfl) rfl ?_ ?_
      · go_simp
        (try simp only [i64_w])
        try rfl
      refine hK.out _ _ ⟨v87_, v90_, v93_, a94_, b94_, m8_, m9_, m10_, m11_, (a94_), m13_, (by rw [ha.out]; exact putSel_upk 12 hb_ rfl rfl rfl), Q_HBr, fun _ h1_ => absurd ((hon 4 (by kernel_rfl)).symm.trans h1_) (by decide), fun _ h1_ => absurd ((hon 7 (by kernel_rfl)).symm.trans h1_) (by decide), Q_RO93, Q_RA94, Q_X8_, Q_X9_, Q_X10_, Q_X11_, fun _ => rfl, fun h0_ => absurd ((hoff 13 (by kernel_rfl)).symm.trans h0_) (by decide)⟩
    refine steps_cons ?_ ?_
    · rintro b a w' ⟨v87_, v90_, v93_, a94_, b94_, m8_, m9_, m10_, m11_, m12_, m13_, ha, Q_HBr, Q_RO87, Q_RO90, Q_RO93, Q_RA94, Q_X8_, Q_X9_, Q_X10_, Q_X11_, Q_X12_, Q_X13_⟩ hb_ hon hoff
      refine ⟨_, rfl, fun K hK => ?_⟩
      have e96 : a.tmps[96]? = some (m11_) := by rw [ha]; exact putSel_on (e := (11, 96, m11_)) 11 rfl rfl (hon 11 (by kernel_rfl)) rfl
      rw [Q_X11_ (hon 11 (by kernel_rfl))] at e96
      replace ha := Aside0.mk ha
      have HBr := Aside0.mk Q_HBr
      have RO93 := Aside0.mk (Q_RO93 (hon 7 (by kernel_rfl)))
      have RA94 := Aside0.mk (Q_RA94 (hon 8 (by kernel_rfl)))
      refine value_ (w1 := w') (v := b94_) (by rfl) rfl ?_ ?_
      · go_simp
        (try simp only [i64_w])
        try rfl
      refine hK.out _ _ ⟨v87_, v90_, v93_, a94_, b94_, m8_, m9_, m10_, m11_, m12_, (b94_), (by rw [ha.out]; exact putSel_upk 13 hb_ rfl rfl rfl), Q_HBr, fun _ h1_ => absurd ((hon 4 (by kernel_rfl)).symm.trans h1_) (by decide), fun _ h1_ => absurd ((hon 7 (by kernel_rfl)).symm.trans h1_) (by decide), Q_RO93, Q_RA94, Q_X8_, Q_X9_, Q_X10_, Q_X11_, Q_X12_, fun _ => rfl⟩
    exact steps_nil
  rintro b a w' hall ⟨v87_, v90_, v93_, a94_, b94_, m8_, m9_, m10_, m11_, m12_, m13_, ha, Q_HBr, Q_RO87, Q_RO90, Q_RO93, Q_RA94, Q_X8_, Q_X9_, Q_X10_, Q_X11_, Q_X12_, Q_X13_⟩
  clear HBr
  have hb0_ := hall 0 (by kernel_rfl)
  have hb1_ := hall 1 (by kernel_rfl)
  have hb2_ := hall 2 (by kernel_rfl)
  have hb3_ := hall 3 (by kernel_rfl)
  have hb4_ := hall 4 (by kernel_rfl)
  have hb5_ := hall 5 (by kernel_rfl)
  have hb6_ := hall 6 (by kernel_rfl)
  have hb7_ := hall 7 (by kernel_rfl)
  have hb8_ := hall 8 (by kernel_rfl)
  have hb9_ := hall 9 (by kernel_rfl)
  have hb10_ := hall 10 (by kernel_rfl)
  have hb11_ := hall 11 (by kernel_rfl)
  have hb12_ := hall 12 (by kernel_rfl)
  have hb13_ := hall 13 (by kernel_rfl)
  subst ha
  obtain rfl := Q_X8_ hb8_
  obtain rfl := Q_X9_ hb9_
  obtain rfl := Q_X10_ hb10_
  obtain rfl := Q_X11_ hb11_
  obtain rfl := Q_X12_ hb12_
  obtain rfl := Q_X13_ hb13_
  simp only [putSel, hb0_, hb1_, hb2_, hb3_, hb4_, hb5_, hb6_, hb7_, hb8_, hb9_, hb10_, hb11_, hb12_, hb13_, if_true, Act.put, List.setIfInBounds_toArray, List.set_cons_zero, List.set_cons_succ]
  have HBr := Aside0.mk Q_HBr
  clear Q_HBr
  clear Q_RO87
  clear Q_RO90
  have RO93 := Aside0.mk (Q_RO93 hb7_)
  clear Q_RO93
  have RA94 := Aside0.mk (Q_RA94 hb8_)
  clear Q_RA94
  clear hall hb0_ hb1_ hb2_ hb3_ hb4_ hb5_ hb6_ hb7_ hb8_ hb9_ hb10_ hb11_ hb12_ hb13_
  obtain ⟨w8, rfl⟩ : ∃ z : World, z = w' := ⟨_, rfl⟩
  replace XK := Aside0.mk (blk_below HBr.out XK.out)
  replace XM := Aside0.mk (blk_below HBr.out XM.out)
  replace RA63 := Aside0.mk (Sl_below RA63.out HBr.out)
  replace RA75 := Aside0.mk (Sl_below RA75.out HBr.out)
  replace RA82 := Aside0.mk (Sl_below RA82.out HBr.out)
  replace HB := Aside0.mk (below_step HB.out HBr.out)
  clear HBr
  have x_XK0 : w8.cell? ⟨w.heap.size, 0, none⟩ = some (.slice Ak1 k.f0.length ck1) := (blk_cell XK.out 0).trans rfl
  have x_XK1 : w8.cell? ⟨w.heap.size, 1, none⟩ = some (.slice Ak2 k.f1.length ck2) := (blk_cell XK.out 1).trans rfl
  have x_XK2 : w8.cell? ⟨w.heap.size, 2, none⟩ = some (.slice Ak3 k.f2.length ck3) := (blk_cell XK.out 2).trans rfl
  have x_XK3 : w8.cell? ⟨w.heap.size, 3, none⟩ = some (.int .i64 k.f3) := (blk_cell XK.out 3).trans rfl
  go_wp2_with fail
  refine (Spans_s (Sl_mk (Kd.C_below CA.out HB.out) hc) (by omega) (Sc_mk (Kd.C_below K3.out HB.out))).mono ?_
  rintro e w9 ⟨a101_, b101_, rfl, RA101, _, hb⟩
  clear x_XK0 x_XK1 x_XK2 x_XK3
  replace XK := Aside0.mk (blk_below hb XK.out)
  replace XM := Aside0.mk (blk_below hb XM.out)
  replace RA63 := Aside0.mk (Sl_below RA63.out hb)
  replace RA75 := Aside0.mk (Sl_below RA75.out hb)
  replace RA82 := Aside0.mk (Sl_below RA82.out hb)
  replace RA94 := Aside0.mk (Sl_below RA94.out hb)
  replace HB := Aside0.mk (below_step HB.out hb)
  clear hb
  replace RA101 := Aside0.mk RA101
  go_wp2
  refine start_ (n := 14) (S := fun w' => True) (ds := []) #[false, false, false, false, false, false, false, false, false, false, false, false, false, false] (by kernel_rfl) rfl rfl trivial (fun hHeld => ?_)
  refine with_tabW more.tab10 more.bits10 (fun HT_ HW_ => ?_)
  have HBr := Aside0.mk (below_drew1 (Below.refl w9.heap.size w9))
  refine inv_at [0, 1, 2, 3, 4, 5, 6, 7, 8, 9, 10, 11, 12, 13] (fun a0_ b a w' => ∃ (v106_ : Value) (v109_ : Value) (v112_ : Value) (a113_ : Value) (b113_ : Value) (m8_ : Value) (m9_ : Value) (m10_ : Value) (m11_ : Value) (m12_ : Value) (m13_ : Value), a = putSel a0_ b [(0, 105, .slice A l.length c), (1, 106, v106_), (2, 107, .pointer (some ⟨w.heap.size, 2, none⟩)), (3, 108, .slice Ak3 k.f2.length ck3), (4, 109, v109_), (5, 110, .pointer (some ⟨w.heap.size + 1, 2, none⟩)), (6, 111, .slice Am3 m.f2.length cm3), (7, 112, v112_), (8, 113, m8_), (9, 104, m9_), (10, 114, m10_), (11, 115, m11_), (12, 17, m12_), (13, 18, m13_)] ∧ (Below w9.heap.size w9 w') ∧ (b 1 = true → b 4 = false → Kd.R k41 41 w' w9.heap.size (fun _ => True) v106_ []) ∧ (b 4 = true → b 7 = false → Kd.R k41 41 w' w9.heap.size (fun _ => True) v109_ (k.f2)) ∧ (b 7 = true → Kd.R k41 41 w' w9.heap.size (fun _ => True) v112_ (k.f2 ++ m.f2)) ∧ (b 8 = true → Sl k39 w' a113_ (l.filter fun x => !spB (k.f2 ++ m.f2) x)) ∧ (b 8 = true → (m8_ : Value) = .tuple #[a113_, b113_]) ∧ (b 9 = true → (m9_ : Value) = .tuple #[a113_, b113_]) ∧ (b 10 = true → (m10_ : Value) = a113_) ∧ (b 11 = true → (m11_ : Value) = b113_) ∧ (b 12 = true → (m12_ : Value) = a113_) ∧ (b 13 = true → (m13_ : Value) = b113_)) HT_.out HW_.out (by kernel_rfl) (by kernel_rfl) ?_ ?_ ?_
  · exact ⟨.bool false, .bool false, .bool false, .bool false, .bool false, .bool false, .bool false, .bool false, .bool false, .bool false, .bool false, by simp only [putSel, Bool.false_eq_true, if_false], HBr.out, fun h_ => absurd h_ (by decide), fun h_ => absurd h_ (by decide), fun h_ => absurd h_ (by decide), fun h_ => absurd h_ (by decide), fun h_ => absurd h_ (by decide), fun h_ => absurd h_ (by decide), fun h_ => absurd h_ (by decide), fun h_ => absurd h_ (by decide), fun h_ => absurd h_ (by decide), fun h_ => absurd h_ (by decide)⟩
  · skip
    clear HBr
    refine steps_cons ?_ ?_
    · rintro b a w' ⟨v106_, v109_, v112_, a113_, b113_, m8_, m9_, m10_, m11_, m12_, m13_, ha, Q_HBr, Q_RO106, Q_RO109, Q_RO112, Q_RA113, Q_X8_, Q_X9_, Q_X10_, Q_X11_, Q_X12_, Q_X13_⟩ hb_ hon hoff
      refine ⟨_, rfl, fun K hK => ?_⟩
      have e0 : a.tmps[0]? = some (.slice A l.length c) := by rw [ha]; exact (putSel_off rfl).trans rfl
      replace ha := Aside0.mk ha
      have HBr := Aside0.mk Q_HBr
      refine value_ (w1 := w') (v := .slice A l.length c) (by rfl) rfl ?_ ?_
      · go_simp
        (try simp only [i64_w])
        try rfl
      refine hK.out _ _ ⟨v106_, v109_, v112_, a113_, b113_, m8_, m9_, m10_, m11_, m12_, m13_, (by rw [ha.out]; exact putSel_upk 0 hb_ rfl rfl rfl), Q_HBr, Q_RO106, Q_RO109, Q_RO112, fun h0_ => absurd ((hoff 8 (by kernel_rfl)).symm.trans h0_) (by decide), fun h0_ => absurd ((hoff 8 (by kernel_rfl)).symm.trans h0_) (by decide), fun h0_ => absurd ((hoff 9 (by kernel_rfl)).symm.trans h0_) (by decide), fun h0_ => absurd ((hoff 10 (by kernel_rfl)).symm.trans h0_) (by decide), fun h0_ => absurd ((hoff 11 (by kernel_rfl)).symm.trans h0_) (by decide), fun h0_ => absurd ((hoff 12 (by kernel_rfl)).symm.trans h0_) (by decide), fun h0_ => absurd ((hoff 13 (by kernel_rfl)).symm.trans h0_) (by decide)⟩
    refine steps_cons ?_ ?_
    · rintro b a w' ⟨v106_, v109_, v112_, a113_, b113_, m8_, m9_, m10_, m11_, m12_, m13_, ha, Q_HBr, Q_RO106, Q_RO109, Q_RO112, Q_RA113, Q_X8_, Q_X9_, Q_X10_, Q_X11_, Q_X12_, Q_X13_⟩ hb_ hon hoff
      refine ⟨_, rfl, fun K hK => ?_⟩
      replace ha := Aside0.mk ha
      have HBr := Aside0.mk Q_HBr
      refine event_step (w1 := w'.alloc (.cells #[] 41)) (v := .slice (some ⟨w'.heap.size, 0, none⟩) 0 0) (by rfl) ?_ ?_
      · go_simp
        try rfl
      refine hK.out _ _ ⟨.slice (some ⟨w'.heap.size, 0, none⟩) 0 0, v109_, v112_, a113_, b113_, m8_, m9_, m10_, m11_, m12_, m13_, (by rw [ha.out]; exact putSel_upk 1 hb_ rfl rfl rfl), below_step HBr.out (below_alloc (Below.refl w'.heap.size w') _), fun _ _ => R_lit_alloc k41 41 w' (below_size HBr.out) (xs := []) (inner := []) (Reps.none _ _) (by simp), fun h0_ _ => absurd ((hoff 4 (by kernel_rfl)).symm.trans h0_) (by decide), fun h0_ => absurd ((hoff 7 (by kernel_rfl)).symm.trans h0_) (by decide), fun h0_ => absurd ((hoff 8 (by kernel_rfl)).symm.trans h0_) (by decide), fun h0_ => absurd ((hoff 8 (by kernel_rfl)).symm.trans h0_) (by decide), fun h0_ => absurd ((hoff 9 (by kernel_rfl)).symm.trans h0_) (by decide), fun h0_ => absurd ((hoff 10 (by kernel_rfl)).symm.trans h0_) (by decide), fun h0_ => absurd ((hoff 11 (by kernel_rfl)).symm.trans h0_) (by decide), fun h0_ => absurd ((hoff 12 (by kernel_rfl)).symm.trans h0_) (by decide), fun h0_ => absurd ((hoff 13 (by kernel_rfl)).symm.trans h0_) (by decide)⟩
    refine steps_cons ?_ ?_
    · rintro b a w' ⟨v106_, v109_, v112_, a113_, b113_, m8_, m9_, m10_, m11_, m12_, m13_, ha, Q_HBr, Q_RO106, Q_RO109, Q_RO112, Q_RA113, Q_X8_, Q_X9_, Q_X10_, Q_X11_, Q_X12_, Q_X13_⟩ hb_ hon hoff
      refine ⟨_, rfl, fun K hK => ?_⟩
      have e4 : a.tmps[4]? = some (.pointer (some ⟨w.heap.size, 0, none⟩)) := by rw [ha]; exact (putSel_off rfl).trans rfl
      replace ha := Aside0.mk ha
      have HBr := Aside0.mk Q_HBr
      refine value_ (w1 := w') (v := .pointer (some ⟨w.heap.size, 2, none⟩)) (by rfl) rfl ?_ ?_
      · go_simp
        (try simp only [i64_w])
        try rfl
      refine hK.out _ _ ⟨v106_, v109_, v112_, a113_, b113_, m8_, m9_, m10_, m11_, m12_, m13_, (by rw [ha.out]; exact putSel_upk 2 hb_ rfl rfl rfl), Q_HBr, Q_RO106, fun h0_ _ => absurd ((hoff 4 (by kernel_rfl)).symm.trans h0_) (by decide), fun h0_ => absurd ((hoff 7 (by kernel_rfl)).symm.trans h0_) (by decide), fun h0_ => absurd ((hoff 8 (by kernel_rfl)).symm.trans h0_) (by decide), fun h0_ => absurd ((hoff 8 (by kernel_rfl)).symm.trans h0_) (by decide), fun h0_ => absurd ((hoff 9 (by kernel_rfl)).symm.trans h0_) (by decide), fun h0_ => absurd ((hoff 10 (by kernel_rfl)).symm.trans h0_) (by decide), fun h0_ => absurd ((hoff 11 (by kernel_rfl)).symm.trans h0_) (by decide), fun h0_ => absurd ((hoff 12 (by kernel_rfl)).symm.trans h0_) (by decide), fun h0_ => absurd ((hoff 13 (by kernel_rfl)).symm.trans h0_) (by decide)⟩
    refine steps_cons ?_ ?_
    · rintro b a w' ⟨v106_, v109_, v112_, a113_, b113_, m8_, m9_, m10_, m11_, m12_, m13_, ha, Q_HBr, Q_RO106, Q_RO109, Q_RO112, Q_RA113, Q_X8_, Q_X9_, Q_X10_, Q_X11_, Q_X12_, Q_X13_⟩ hb_ hon hoff
      refine ⟨_, rfl, fun K hK => ?_⟩
      have e107 : a.tmps[107]? = some (.pointer (some ⟨w.heap.size, 2, none⟩)) := by rw [ha]; exact putSel_on (e := (2, 107, .pointer (some ⟨w.heap.size, 2, none⟩))) 2 rfl rfl (hon 2 (by kernel_rfl)) rfl
      replace ha := Aside0.mk ha
      have HBr := Aside0.mk Q_HBr
      have z2_ : w'.cell? ⟨w.heap.size, 2, none⟩ = some (.slice Ak3 k.f2.length ck3) := (blk_cell (blk_below HBr.out XK.out) 2).trans rfl
      refine value_ (w1 := w') (v := .slice Ak3 k.f2.length ck3) (by rfl) rfl ?_ ?_
      · go_simp
        (try simp only [i64_w])
        try rfl
      refine hK.out _ _ ⟨v106_, v109_, v112_, a113_, b113_, m8_, m9_, m10_, m11_, m12_, m13_, (by rw [ha.out]; exact putSel_upk 3 hb_ rfl rfl rfl), Q_HBr, Q_RO106, fun h0_ _ => absurd ((hoff 4 (by kernel_rfl)).symm.trans h0_) (by decide), fun h0_ => absurd ((hoff 7 (by kernel_rfl)).symm.trans h0_) (by decide), fun h0_ => absurd ((hoff 8 (by kernel_rfl)).symm.trans h0_) (by decide), fun h0_ => absurd ((hoff 8 (by kernel_rfl)).symm.trans h0_) (by decide), fun h0_ => absurd ((hoff 9 (by kernel_rfl)).symm.trans h0_) (by decide), fun h0_ => absurd ((hoff 10 (by kernel_rfl)).symm.trans h0_) (by decide), fun h0_ => absurd ((hoff 11 (by kernel_rfl)).symm.trans h0_) (by decide), fun h0_ => absurd ((hoff 12 (by kernel_rfl)).symm.trans h0_) (by decide), fun h0_ => absurd ((hoff 13 (by kernel_rfl)).symm.trans h0_) (by decide)⟩
    refine steps_cons ?_ ?_
    · rintro b a w' ⟨v106_, v109_, v112_, a113_, b113_, m8_, m9_, m10_, m11_, m12_, m13_, ha, Q_HBr, Q_RO106, Q_RO109, Q_RO112, Q_RA113, Q_X8_, Q_X9_, Q_X10_, Q_X11_, Q_X12_, Q_X13_⟩ hb_ hon hoff
      refine ⟨_, rfl, fun K hK => ?_⟩
      have e106 : a.tmps[106]? = some (v106_) := by rw [ha]; exact putSel_on (e := (1, 106, v106_)) 1 rfl rfl (hon 1 (by kernel_rfl)) rfl
      have e108 : a.tmps[108]? = some (.slice Ak3 k.f2.length ck3) := by rw [ha]; exact putSel_on (e := (3, 108, .slice Ak3 k.f2.length ck3)) 3 rfl rfl (hon 3 (by kernel_rfl)) rfl
      replace ha := Aside0.mk ha
      have HBr := Aside0.mk Q_HBr
      have RO106 := Aside0.mk (Q_RO106 (hon 1 (by kernel_rfl)) hb_)
      refine Kd.R_append_rows_step k41 (w0 := w9) w9.heap.size (by rfl) (.tmp 106) (.tmp 108) 25 41 _ _ rfl Try.underlying25 info41 rfl (by decide) (by decide) v106_ (([] : List S41)) (k.f2) _ _ _ (fun _ => True) (fun _ => False) (by first | (go_simp; done) | (go_simp; rfl)) (by first | (go_simp; done) | (go_simp; rfl)) RO106.out (Kd.C_below K3.out (below_step HB.out HBr.out)) (fun _ _ h => h) (fun _ h => h.elim) (fun _ _ => trivial) HBr.out (below_size HBr.out) (by simp; omega) ?_
      intro va_ w1 hR_ hB_ hg_ hat_
      refine hK.out _ _ ⟨v106_, va_, v112_, a113_, b113_, m8_, m9_, m10_, m11_, m12_, m13_, (by rw [ha.out]; exact putSel_upk 4 hb_ rfl rfl rfl), hB_, fun _ h1_ => absurd ((up_self b 4).symm.trans h1_) (by decide), fun _ _ => hR_, fun h0_ => absurd ((hoff 7 (by kernel_rfl)).symm.trans h0_) (by decide), fun h0_ => absurd ((hoff 8 (by kernel_rfl)).symm.trans h0_) (by decide), fun h0_ => absurd ((hoff 8 (by kernel_rfl)).symm.trans h0_) (by decide), fun h0_ => absurd ((hoff 9 (by kernel_rfl)).symm.trans h0_) (by decide), fun h0_ => absurd ((hoff 10 (by kernel_rfl)).symm.trans h0_) (by decide), fun h0_ => absurd ((hoff 11 (by kernel_rfl)).symm.trans h0_) (by decide), fun h0_ => absurd ((hoff 12 (by kernel_rfl)).symm.trans h0_) (by decide), fun h0_ => absurd ((hoff 13 (by kernel_rfl)).symm.trans h0_) (by decide)⟩
    refine steps_cons ?_ ?_
    · rintro b a w' ⟨v106_, v109_, v112_, a113_, b113_, m8_, m9_, m10_, m11_, m12_, m13_, ha, Q_HBr, Q_RO106, Q_RO109, Q_RO112, Q_RA113, Q_X8_, Q_X9_, Q_X10_, Q_X11_, Q_X12_, Q_X13_⟩ hb_ hon hoff
      refine ⟨_, rfl, fun K hK => ?_⟩
      have e5 : a.tmps[5]? = some (.pointer (some ⟨w.heap.size + 1, 0, none⟩)) := by rw [ha]; exact (putSel_off rfl).trans rfl
      replace ha := Aside0.mk ha
      have HBr := Aside0.mk Q_HBr
      refine value_ (w1 := w') (v := .pointer (some ⟨w.heap.size + 1, 2, none⟩)) (by rfl) rfl ?_ ?_
      · go_simp
        (try simp only [i64_w])
        try rfl
      refine hK.out _ _ ⟨v106_, v109_, v112_, a113_, b113_, m8_, m9_, m10_, m11_, m12_, m13_, (by rw [ha.out]; exact putSel_upk 5 hb_ rfl rfl rfl), Q_HBr, Q_RO106, Q_RO109, fun h0_ => absurd ((hoff 7 (by kernel_rfl)).symm.trans h0_) (by decide), fun h0_ => absurd ((hoff 8 (by kernel_rfl)).symm.trans h0_) (by decide), fun h0_ => absurd ((hoff 8 (by kernel_rfl)).symm.trans h0_) (by decide), fun h0_ => absurd ((hoff 9 (by kernel_rfl)).symm.trans h0_) (by decide), fun h0_ => absurd ((hoff 10 (by kernel_rfl)).symm.trans h0_) (by decide), fun h0_ => absurd ((hoff 11 (by kernel_rfl)).symm.trans h0_) (by decide), fun h0_ => absurd ((hoff 12 (by kernel_rfl)).symm.trans h0_) (by decide), fun h0_ => absurd ((hoff 13 (by kernel_rfl)).symm.trans h0_) (by decide)⟩
    refine steps_cons ?_ ?_
    · rintro b a w' ⟨v106_, v109_, v112_, a113_, b113_, m8_, m9_, m10_, m11_, m12_, m13_, ha, Q_HBr, Q_RO106, Q_RO109, Q_RO112, Q_RA113, Q_X8_, Q_X9_, Q_X10_, Q_X11_, Q_X12_, Q_X13_⟩ hb_ hon hoff
      refine ⟨_, rfl, fun K hK => ?_⟩
      have e110 : a.tmps[110]? = some (.pointer (some ⟨w.heap.size + 1, 2, none⟩)) := by rw [ha]; exact putSel_on (e := (5, 110, .pointer (some ⟨w.heap.size + 1, 2, none⟩))) 5 rfl rfl (hon 5 (by kernel_rfl)) rfl
      replace ha := Aside0.mk ha
      have HBr := Aside0.mk Q_HBr
      have z2_ : w'.cell? ⟨w.heap.size + 1, 2, none⟩ = some (.slice Am3 m.f2.length cm3) := (blk_cell (blk_below HBr.out XM.out) 2).trans rfl
      refine value_ (w1 := w') (v := .slice Am3 m.f2.length cm3) (by rfl) rfl ?_ ?_
      · go_simp
        (try simp only [i64_w])
        try rfl
      refine hK.out _ _ ⟨v106_, v109_, v112_, a113_, b113_, m8_, m9_, m10_, m11_, m12_, m13_, (by rw [ha.out]; exact putSel_upk 6 hb_ rfl rfl rfl), Q_HBr, Q_RO106, Q_RO109, fun h0_ => absurd ((hoff 7 (by kernel_rfl)).symm.trans h0_) (by decide), fun h0_ => absurd ((hoff 8 (by kernel_rfl)).symm.trans h0_) (by decide), fun h0_ => absurd ((hoff 8 (by kernel_rfl)).symm.trans h0_) (by decide), fun h0_ => absurd ((hoff 9 (by kernel_rfl)).symm.trans h0_) (by decide), fun h0_ => absurd ((hoff 10 (by kernel_rfl)).symm.trans h0_) (by decide), fun h0_ => absurd ((hoff 11 (by kernel_rfl)).symm.trans h0_) (by decide), fun h0_ => absurd ((hoff 12 (by kernel_rfl)).symm.trans h0_) (by decide), fun h0_ => absurd ((hoff 13 (by kernel_rfl)).symm.trans h0_) (by decide)⟩
    refine steps_cons ?_ ?_
    · rintro b a w' ⟨v106_, v109_, v112_, a113_, b113_, m8_, m9_, m10_, m11_, m12_, m13_, ha, Q_HBr, Q_RO106, Q_RO109, Q_RO112, Q_RA113, Q_X8_, Q_X9_, Q_X10_, Q_X11_, Q_X12_, Q_X13_⟩ hb_ hon hoff
      refine ⟨_, rfl, fun K hK => ?_⟩
      have e109 : a.tmps[109]? = some (v109_) := by rw [ha]; exact putSel_on (e := (4, 109, v109_)) 4 rfl rfl (hon 4 (by kernel_rfl)) rfl
      have e111 : a.tmps[111]? = some (.slice Am3 m.f2.length cm3) := by rw [ha]; exact putSel_on (e := (6, 111, .slice Am3 m.f2.length cm3)) 6 rfl rfl (hon 6 (by kernel_rfl)) rfl
      replace ha := Aside0.mk ha
      have HBr := Aside0.mk Q_HBr
      have RO109 := Aside0.mk (Q_RO109 (hon 4 (by kernel_rfl)) hb_)
      refine Kd.R_append_rows_step k41 (w0 := w9) w9.heap.size (by rfl) (.tmp 109) (.tmp 111) 25 41 _ _ rfl Try.underlying25 info41 rfl (by decide) (by decide) v109_ (k.f2) (m.f2) _ _ _ (fun _ => True) (fun _ => False) (by first | (go_simp; done) | (go_simp; rfl)) (by first | (go_simp; done) | (go_simp; rfl)) RO109.out (Kd.C_below M3.out (below_step HB.out HBr.out)) (fun _ _ h => h) (fun _ h => h.elim) (fun _ _ => trivial) HBr.out (below_size HBr.out) (by omega) ?_
      intro va_ w1 hR_ hB_ hg_ hat_
      refine hK.out _ _ ⟨v106_, v109_, va_, a113_, b113_, m8_, m9_, m10_, m11_, m12_, m13_, (by rw [ha.out]; exact putSel_upk 7 hb_ rfl rfl rfl), hB_, fun _ h1_ => absurd ((hon 4 (by kernel_rfl)).symm.trans h1_) (by decide), fun _ h1_ => absurd ((up_self b 7).symm.trans h1_) (by decide), fun _ => hR_, fun h0_ => absurd ((hoff 8 (by kernel_rfl)).symm.trans h0_) (by decide), fun h0_ => absurd ((hoff 8 (by kernel_rfl)).symm.trans h0_) (by decide), fun h0_ => absurd ((hoff 9 (by kernel_rfl)).symm.trans h0_) (by decide), fun h0_ => absurd ((hoff 10 (by kernel_rfl)).symm.trans h0_) (by decide), fun h0_ => absurd ((hoff 11 (by kernel_rfl)).symm.trans h0_) (by decide), fun h0_ => absurd ((hoff 12 (by kernel_rfl)).symm.trans h0_) (by decide), fun h0_ => absurd ((hoff 13 (by kernel_rfl)).symm.trans h0_) (by decide)⟩
    refine steps_cons ?_ ?_
    · rintro b a w' ⟨v106_, v109_, v112_, a113_, b113_, m8_, m9_, m10_, m11_, m12_, m13_, ha, Q_HBr, Q_RO106, Q_RO109, Q_RO112, Q_RA113, Q_X8_, Q_X9_, Q_X10_, Q_X11_, Q_X12_, Q_X13_⟩ hb_ hon hoff
      refine ⟨_, rfl, fun K hK => ?_⟩
      have e105 : a.tmps[105]? = some (.slice A l.length c) := by rw [ha]; exact putSel_on (e := (0, 105, .slice A l.length c)) 0 rfl rfl (hon 0 (by kernel_rfl)) rfl
      have e112 : a.tmps[112]? = some (v112_) := by rw [ha]; exact putSel_on (e := (7, 112, v112_)) 7 rfl rfl (hon 7 (by kernel_rfl)) rfl
      replace ha := Aside0.mk ha
      have HBr := Aside0.mk Q_HBr
      have RO112 := Aside0.mk (Q_RO112 (hon 7 (by kernel_rfl)))
      refine goes_ Try.func13 (by kernel_rfl) rfl #[.slice A l.length c, v112_] (by rfl) rfl rfl (by first | (simp only [List.map_toArray, List.map_cons, List.map_nil, Act.eval, Array.getD_eq_getD_getElem?, Option.getD_some, e105, e112]; done) | (simp only [List.map_toArray, List.map_cons, List.map_nil, Act.eval, Array.getD_eq_getD_getElem?, Option.getD_some, e105, e112]; rfl)) ?_
      refine (Spans_s (Sl_mk (Kd.C_below CA.out (below_step HB.out HBr.out)) hc) (by omega) (Sl_sc (Sl_R RO112.out))).mono ?_
      rintro e w1 ⟨v1, v2, rfl, hr1, hr2, hb1⟩
      refine ⟨_, rfl, ?_⟩
      refine hK.out _ _ ⟨v106_, v109_, v112_, v1, v2, (.tuple #[v1, v2]), m9_, m10_, m11_, m12_, m13_, (by rw [ha.out]; exact putSel_upk 8 hb_ rfl rfl rfl), below_step HBr.out hb1, fun _ h1_ => absurd ((hon 4 (by kernel_rfl)).symm.trans h1_) (by decide), fun _ h1_ => absurd ((hon 7 (by kernel_rfl)).symm.trans h1_) (by decide), fun _ => Kd.R_below RO112.out hb1, fun _ => hr1, fun _ => rfl, fun h0_ => absurd ((hoff 9 (by kernel_rfl)).symm.trans h0_) (by decide), fun h0_ => absurd ((hoff 10 (by kernel_rfl)).symm.trans h0_) (by decide), fun h0_ => absurd ((hoff 11 (by kernel_rfl)).symm.trans h0_) (by decide), fun h0_ => absurd ((hoff 12 (by kernel_rfl)).symm.trans h0_) (by decide), fun h0_ => absurd ((hoff 13 (by kernel_rfl)).symm.trans h0_) (by decide)⟩
    refine steps_cons ?_ ?_
    · rintro b a w' ⟨v106_, v109_, v112_, a113_, b113_, m8_, m9_, m10_, m11_, m12_, m13_, ha, Q_HBr, Q_RO106, Q_RO109, Q_RO112, Q_RA113, Q_X8_, Q_X9_, Q_X10_, Q_X11_, Q_X12_, Q_X13_⟩ hb_ hon hoff
      refine ⟨_, rfl, fun K hK => ?_⟩
      have e113 : a.tmps[113]? = some (m8_) := by rw [ha]; exact putSel_on (e := (8, 113, m8_)) 8 rfl rfl (hon 8 (by kernel_rfl)) rfl
      rw [Q_X8_ (hon 8 (by kernel_rfl))] at e113
      replace ha := Aside0.mk ha
      have HBr := Aside0.mk Q_HBr
      have RO112 := Aside0.mk (Q_RO112 (hon 7 (by kernel_rfl)))
      have RA113 := Aside0.mk (Q_RA113 (hon 8 (by kernel_rfl)))
      refine value_ (w1 := w') (v := .tuple #[a113_, b113_]) (by rfl) rfl ?_ ?_
      · go_simp
        (try simp only [i64_w])
        try rfl
      refine hK.out _ _ ⟨v106_, v109_, v112_, a113_, b113_, m8_, (.tuple #[a113_, b113_]), m10_, m11_, m12_, m13_, (by rw [ha.out]; exact putSel_upk 9 hb_ rfl rfl rfl), Q_HBr, fun _ h1_ => absurd ((hon 4 (by kernel_rfl)).symm.trans h1_) (by decide), fun _ h1_ => absurd ((hon 7 (by kernel_rfl)).symm.trans h1_) (by decide), Q_RO112, Q_RA113, Q_X8_, fun _ => rfl, fun h0_ => absurd ((hoff 10 (by kernel_rfl)).symm.trans h0_) (by decide), fun h0_ => absurd ((hoff 11 (by kernel_rfl)).symm.trans h0_) (by decide), fun h0_ => absurd ((hoff 12 (by kernel_rfl)).symm.trans h0_) (by decide), fun h0_ => absurd ((hoff 13 (by kernel_rfl)).symm.trans h0_) (by decide)⟩
    refine steps_cons ?_ ?_
    · rintro b a w' ⟨v106_, v109_, v112_, a113_, b113_, m8_, m9_, m10_, m11_, m12_, m13_, ha, Q_HBr, Q_RO106, Q_RO109, Q_RO112, Q_RA113, Q_X8_, Q_X9_, Q_X10_, Q_X11_, Q_X12_, Q_X13_⟩ hb_ hon hoff
      refine ⟨_, rfl, fun K hK => ?_⟩
      have e104 : a.tmps[104]? = some (m9_) := by rw [ha]; exact putSel_on (e := (9, 104, m9_)) 9 rfl rfl (hon 9 (by kernel_rfl)) rfl
      rw [Q_X9_ (hon 9 (by kernel_rfl))] at e104
      replace ha := Aside0.mk ha
      have HBr := Aside0.mk Q_HBr
      have RO112 := Aside0.mk (Q_RO112 (hon 7 (by kernel_rfl)))
      have RA113 := Aside0.mk (Q_RA113 (hon 8 (by kernel_rfl)))
      refine value_ (w1 := w') (v := a113_) (by rfl) rfl ?_ ?_
      · go_simp
        (try simp only [i64_w])
        try rfl
      refine hK.out _ _ ⟨v106_, v109_, v112_, a113_, b113_, m8_, m9_, (a113_), m11_, m12_, m13_, (by rw [ha.out]; exact putSel_upk 10 hb_ rfl rfl rfl), Q_HBr, fun _ h1_ => absurd ((hon 4 (by kernel_rfl)).symm.trans h1_) (by decide), fun _ h1_ => absurd ((hon 7 (by kernel_rfl)).symm.trans h1_) (by decide), Q_RO112, Q_RA113, Q_X8_, Q_X9_, fun _ => rfl, Q_X11_, fun h0_ => absurd ((hoff 12 (by kernel_rfl)).symm.trans h0_) (by decide), fun h0_ => absurd ((hoff 13 (by kernel_rfl)).symm.trans h0_) (by decide)⟩
    refine steps_cons ?_ ?_
    · rintro b a w' ⟨v106_, v109_, v112_, a113_, b113_, m8_, m9_, m10_, m11_, m12_, m13_, ha, Q_HBr, Q_RO106, Q_RO109, Q_RO112, Q_RA113, Q_X8_, Q_X9_, Q_X10_, Q_X11_, Q_X12_, Q_X13_⟩ hb_ hon hoff
      refine ⟨_, rfl, fun K hK => ?_⟩
      have e104 : a.tmps[104]? = some (m9_) := by rw [ha]; exact putSel_on (e := (9, 104, m9_)) 9 rfl rfl (hon 9 (by kernel_rfl)) rfl
      rw [Q_X9_ (hon 9 (by kernel_rfl))] at e104
      replace ha := Aside0.mk ha
      have HBr := Aside0.mk Q_HBr
      have RO112 := Aside0.mk (Q_RO112 (hon 7 (by kernel_rfl)))
      have RA113 := Aside0.mk (Q_RA113 (hon 8 (by kernel_rfl)))
      refine value_ (w1 := w') (v := b113_) (by rfl) rfl ?_ ?_
      · go_simp
        (try simp only [i64_w])
        try rfl
      refine hK.out _ _ ⟨v106_, v109_, v112_, a113_, b113_, m8_, m9_, m10_, (b113_), m12_, m13_, (by rw [ha.out]; exact putSel_upk 11 hb_ rfl rfl rfl), Q_HBr, fun _ h1_ => absurd ((hon 4 (by kernel_rfl)).symm.trans h1_) (by decide), fun _ h1_ => absurd ((hon 7 (by kernel_rfl)).symm.trans h1_) (by decide), Q_RO112, Q_RA113, Q_X8_, Q_X9_, Q_X10_, fun _ => rfl, Q_X12_, fun h0_ => absurd ((hoff 13 (by kernel_rfl)).symm.trans h0_) (by decide)⟩
    refine steps_cons ?_ ?_
    · rintro b a w' ⟨v106_, v109_, v112_, a113_, b113_, m8_, m9_, m10_, m11_, m12_, m13_, ha, Q_HBr, Q_RO106, Q_RO109, Q_RO112, Q_RA113, Q_X8_, Q_X9_, Q_X10_, Q_X11_, Q_X12_, Q_X13_⟩ hb_ hon hoff
      refine ⟨_, rfl, fun K hK => ?_⟩
      have e114 : a.tmps[114]? = some (m10_) := by rw [ha]; exact putSel_on (e := (10, 114, m10_)) 10 rfl rfl (hon 10 (by kernel_rfl)) rfl
      rw [Q_X10_ (hon 10 (by kernel_rfl))] at e114
      replace ha := Aside0.mk ha
      have HBr := Aside0.mk Q_HBr
      have RO112 := Aside0.mk (Q_RO112 (hon 7 (by kernel_rfl)))
      have RA113 := Aside0.mk (Q_RA113 (hon 8 (by kernel_rfl)))
      refine value_ (w1 := w') (v := a113_) (by rfl) rfl ?_ ?_
      · go_simp
        (try simp only [i64_w])
        try rfl
      refine hK.out _ _ ⟨v106_, v109_, v112_, a113_, b113_, m8_, m9_, m10_, m11_, (a113_), m13_, (by rw [ha.out]; exact putSel_upk 12 hb_ rfl rfl rfl), Q_HBr, fun _ h1_ => absurd ((hon 4 (by kernel_rfl)).symm.trans h1_) (by decide), fun _ h1_ => absurd ((hon 7 (by kernel_rfl)).symm.trans h1_) (by decide), Q_RO112, Q_RA113, Q_X8_, Q_X9_, Q_X10_, Q_X11_, fun _ => rfl, fun h0_ => absurd ((hoff 13 (by kernel_rfl)).symm.trans h0_) (by decide)⟩
    refine steps_cons ?_ ?_
    · rintro b a w' ⟨v106_, v109_, v112_, a113_, b113_, m8_, m9_, m10_, m11_, m12_, m13_, ha, Q_HBr, Q_RO106, Q_RO109, Q_RO112, Q_RA113, Q_X8_, Q_X9_, Q_X10_, Q_X11_, Q_X12_, Q_X13_⟩ hb_ hon hoff
      refine ⟨_, rfl, fun K hK => ?_⟩
      have e115 : a.tmps[115]? = some (m11_) := by rw [ha]; exact putSel_on (e := (11, 115, m11_)) 11 rfl rfl (hon 11 (by kernel_rfl)) rfl
      rw [Q_X11_ (hon 11 (by kernel_rfl))] at e115
      replace ha := Aside0.mk ha
      have HBr := Aside0.mk Q_HBr
      have RO112 := Aside0.mk (Q_RO112 (hon 7 (by kernel_rfl)))
      have RA113 := Aside0.mk (Q_RA113 (hon 8 (by kernel_rfl)))
      refine value_ (w1 := w') (v := b113_) (by rfl) rfl ?_ ?_
      · go_simp
        (try simp only [i64_w])
        try rfl
      refine hK.out _ _ ⟨v106_, v109_, v112_, a113_, b113_, m8_, m9_, m10_, m11_, m12_, (b113_), (by rw [ha.out]; exact putSel_upk 13 hb_ rfl rfl rfl), Q_HBr, fun _ h1_ => absurd ((hon 4 (by kernel_rfl)).symm.trans h1_) (by decide), fun _ h1_ => absurd ((hon 7 (by kernel_rfl)).symm.trans h1_) (by decide), Q_RO112, Q_RA113, Q_X8_, Q_X9_, Q_X10_, Q_X11_, Q_X12_, fun _ => rfl⟩
    exact steps_nil
  rintro b a w' hall ⟨v106_, v109_, v112_, a113_, b113_, m8_, m9_, m10_, m11_, m12_, m13_, ha, Q_HBr, Q_RO106, Q_RO109, Q_RO112, Q_RA113, Q_X8_, Q_X9_, Q_X10_, Q_X11_, Q_X12_, Q_X13_⟩
  clear HBr
  have hb0_ := hall 0 (by kernel_rfl)
  have hb1_ := hall 1 (by kernel_rfl)
  have hb2_ := hall 2 (by kernel_rfl)
  have hb3_ := hall 3 (by kernel_rfl)
  have hb4_ := hall 4 (by kernel_rfl)
  have hb5_ := hall 5 (by kernel_rfl)
  have hb6_ := hall 6 (by kernel_rfl)
  have hb7_ := hall 7 (by kernel_rfl)
  have hb8_ := hall 8 (by kernel_rfl)
  have hb9_ := hall 9 (by kernel_rfl)
  have hb10_ := hall 10 (by kernel_rfl)
  have hb11_ := hall 11 (by kernel_rfl)
  have hb12_ := hall 12 (by kernel_rfl)
  have hb13_ := hall 13 (by kernel_rfl)
  subst ha
  obtain rfl := Q_X8_ hb8_
  obtain rfl := Q_X9_ hb9_
  obtain rfl := Q_X10_ hb10_
  obtain rfl := Q_X11_ hb11_
  obtain rfl := Q_X12_ hb12_
  obtain rfl := Q_X13_ hb13_
  simp only [putSel, hb0_, hb1_, hb2_, hb3_, hb4_, hb5_, hb6_, hb7_, hb8_, hb9_, hb10_, hb11_, hb12_, hb13_, if_true, Act.put, List.setIfInBounds_toArray, List.set_cons_zero, List.set_cons_succ]
  have HBr := Aside0.mk Q_HBr
  clear Q_HBr
  clear Q_RO106
  clear Q_RO109
  have RO112 := Aside0.mk (Q_RO112 hb7_)
  clear Q_RO112
  have RA113 := Aside0.mk (Q_RA113 hb8_)
  clear Q_RA113
  clear hall hb0_ hb1_ hb2_ hb3_ hb4_ hb5_ hb6_ hb7_ hb8_ hb9_ hb10_ hb11_ hb12_ hb13_
  obtain ⟨w10, rfl⟩ : ∃ z : World, z = w' := ⟨_, rfl⟩
  replace XK := Aside0.mk (blk_below HBr.out XK.out)
  replace XM := Aside0.mk (blk_below HBr.out XM.out)
  replace RA63 := Aside0.mk (Sl_below RA63.out HBr.out)
  replace RA75 := Aside0.mk (Sl_below RA75.out HBr.out)
  replace RA82 := Aside0.mk (Sl_below RA82.out HBr.out)
  replace RA94 := Aside0.mk (Sl_below RA94.out HBr.out)
  replace RA101 := Aside0.mk (Sl_below RA101.out HBr.out)
  replace HB := Aside0.mk (below_step HB.out HBr.out)
  clear HBr
  obtain hmx | hmx | hmx : k.f3 < m.f3 ∨ m.f3 < k.f3 ∨ (k.f3 = m.f3 ∧ ¬ k.f3 < m.f3 ∧ ¬ m.f3 < k.f3) := by omega
  · skip
    have x_XK0 : w10.cell? ⟨w.heap.size, 0, none⟩ = some (.slice Ak1 k.f0.length ck1) := (blk_cell XK.out 0).trans rfl
    have x_XK1 : w10.cell? ⟨w.heap.size, 1, none⟩ = some (.slice Ak2 k.f1.length ck2) := (blk_cell XK.out 1).trans rfl
    have x_XK2 : w10.cell? ⟨w.heap.size, 2, none⟩ = some (.slice Ak3 k.f2.length ck3) := (blk_cell XK.out 2).trans rfl
    have x_XK3 : w10.cell? ⟨w.heap.size, 3, none⟩ = some (.int .i64 k.f3) := (blk_cell XK.out 3).trans rfl
    have x_XM0 : w10.cell? ⟨w.heap.size + 1, 0, none⟩ = some (.slice Am1 m.f0.length cm1) := (blk_cell XM.out 0).trans rfl
    have x_XM1 : w10.cell? ⟨w.heap.size + 1, 1, none⟩ = some (.slice Am2 m.f1.length cm2) := (blk_cell XM.out 1).trans rfl
    have x_XM2 : w10.cell? ⟨w.heap.size + 1, 2, none⟩ = some (.slice Am3 m.f2.length cm3) := (blk_cell XM.out 2).trans rfl
    have x_XM3 : w10.cell? ⟨w.heap.size + 1, 3, none⟩ = some (.int .i64 m.f3) := (blk_cell XM.out 3).trans rfl
    go_wp2_with fail
    refine (Epochs_s (Sl_mk (Kd.C_below CA.out HB.out) hc) (by omega) (by omega)).mono ?_
    rintro e w11 ⟨a123_, b123_, rfl, RA123, _, hb⟩
    clear x_XK0 x_XK1 x_XK2 x_XK3 x_XM0 x_XM1 x_XM2 x_XM3
    replace XK := Aside0.mk (blk_below hb XK.out)
    replace XM := Aside0.mk (blk_below hb XM.out)
    replace RA63 := Aside0.mk (Sl_below RA63.out hb)
    replace RA75 := Aside0.mk (Sl_below RA75.out hb)
    replace RA82 := Aside0.mk (Sl_below RA82.out hb)
    replace RA94 := Aside0.mk (Sl_below RA94.out hb)
    replace RA101 := Aside0.mk (Sl_below RA101.out hb)
    replace RA113 := Aside0.mk (Sl_below RA113.out hb)
    replace HB := Aside0.mk (below_step HB.out hb)
    clear hb
    replace RA123 := Aside0.mk RA123
    have x_XK0 : w11.cell? ⟨w.heap.size, 0, none⟩ = some (.slice Ak1 k.f0.length ck1) := (blk_cell XK.out 0).trans rfl
    have x_XK1 : w11.cell? ⟨w.heap.size, 1, none⟩ = some (.slice Ak2 k.f1.length ck2) := (blk_cell XK.out 1).trans rfl
    have x_XK2 : w11.cell? ⟨w.heap.size, 2, none⟩ = some (.slice Ak3 k.f2.length ck3) := (blk_cell XK.out 2).trans rfl
    have x_XK3 : w11.cell? ⟨w.heap.size, 3, none⟩ = some (.int .i64 k.f3) := (blk_cell XK.out 3).trans rfl
    have x_XM0 : w11.cell? ⟨w.heap.size + 1, 0, none⟩ = some (.slice Am1 m.f0.length cm1) := (blk_cell XM.out 0).trans rfl
    have x_XM1 : w11.cell? ⟨w.heap.size + 1, 1, none⟩ = some (.slice Am2 m.f1.length cm2) := (blk_cell XM.out 1).trans rfl
    have x_XM2 : w11.cell? ⟨w.heap.size + 1, 2, none⟩ = some (.slice Am3 m.f2.length cm3) := (blk_cell XM.out 2).trans rfl
    have x_XM3 : w11.cell? ⟨w.heap.size + 1, 3, none⟩ = some (.int .i64 m.f3) := (blk_cell XM.out 3).trans rfl
    go_wp2_with fail
    refine (Epochs_s (Sl_mk (Kd.C_below CA.out HB.out) hc) (by omega) (by omega)).mono ?_
    rintro e w12 ⟨a133_, b133_, rfl, RA133, _, hb⟩
    clear x_XK0 x_XK1 x_XK2 x_XK3 x_XM0 x_XM1 x_XM2 x_XM3
    replace XK := Aside0.mk (blk_below hb XK.out)
    replace XM := Aside0.mk (blk_below hb XM.out)
    replace RA63 := Aside0.mk (Sl_below RA63.out hb)
    replace RA75 := Aside0.mk (Sl_below RA75.out hb)
    replace RA82 := Aside0.mk (Sl_below RA82.out hb)
    replace RA94 := Aside0.mk (Sl_below RA94.out hb)
    replace RA101 := Aside0.mk (Sl_below RA101.out hb)
    replace RA113 := Aside0.mk (Sl_below RA113.out hb)
    replace RA123 := Aside0.mk (Sl_below RA123.out hb)
    replace HB := Aside0.mk (below_step HB.out hb)
    clear hb
    replace RA133 := Aside0.mk RA133
    go_wp2_with fail
    refine (Slots_s (Sl_mk (Kd.C_below CA.out HB.out) hc) (by omega) (Sl_sc (Sl_nil _ _))).mono ?_
    rintro e w13 ⟨a138_, b138_, rfl, RA138, _, hb⟩
    replace XK := Aside0.mk (blk_below hb XK.out)
    replace XM := Aside0.mk (blk_below hb XM.out)
    replace RA63 := Aside0.mk (Sl_below RA63.out hb)
    replace RA75 := Aside0.mk (Sl_below RA75.out hb)
    replace RA82 := Aside0.mk (Sl_below RA82.out hb)
    replace RA94 := Aside0.mk (Sl_below RA94.out hb)
    replace RA101 := Aside0.mk (Sl_below RA101.out hb)
    replace RA113 := Aside0.mk (Sl_below RA113.out hb)
    replace RA123 := Aside0.mk (Sl_below RA123.out hb)
    replace RA133 := Aside0.mk (Sl_below RA133.out hb)
    replace HB := Aside0.mk (below_step HB.out hb)
    clear hb
    replace RA138 := Aside0.mk RA138
    go_wp2_with fail
    refine (Eras_s (Sl_mk (Kd.C_below CA.out (below_alloc HB.out _)) hc) (by omega) (Sl_sc (Sl_blk (xs := [0, -1]) (blk_new _ _) (Reps.cons (c := [_]) rfl rfl (Reps.cons (c := [_]) rfl rfl (Reps.none _ _))) (by simp)))).mono ?_
    rintro e w14 ⟨a144_, b144_, rfl, RA144, _, hb⟩
    replace hb := below_step (below_alloc (Below.refl _ _) _) hb
    replace XK := Aside0.mk (blk_below hb XK.out)
    replace XM := Aside0.mk (blk_below hb XM.out)
    replace RA63 := Aside0.mk (Sl_below RA63.out hb)
    replace RA75 := Aside0.mk (Sl_below RA75.out hb)
    replace RA82 := Aside0.mk (Sl_below RA82.out hb)
    replace RA94 := Aside0.mk (Sl_below RA94.out hb)
    replace RA101 := Aside0.mk (Sl_below RA101.out hb)
    replace RA113 := Aside0.mk (Sl_below RA113.out hb)
    replace RA123 := Aside0.mk (Sl_below RA123.out hb)
    replace RA133 := Aside0.mk (Sl_below RA133.out hb)
    replace RA138 := Aside0.mk (Sl_below RA138.out hb)
    replace HB := Aside0.mk (below_step HB.out hb)
    clear hb
    replace RA144 := Aside0.mk RA144
    go_wp2_with fail
    refine (Spans_s (Sl_mk (Kd.C_below CA.out (below_alloc HB.out _)) hc) (by omega) (Sl_sc (Sl_blk (xs := [⟨false, 0, 1099511627776⟩]) (blk_new _ _) (Reps.cons (k41_mk _ ⟨false, 0, 1099511627776⟩) rfl (Reps.none _ _)) (by simp)))).mono ?_
    rintro e w15 ⟨a151_, b151_, rfl, RA151, _, hb⟩
    replace hb := below_step (below_alloc (Below.refl _ _) _) hb
    replace XK := Aside0.mk (blk_below hb XK.out)
    replace XM := Aside0.mk (blk_below hb XM.out)
    replace RA63 := Aside0.mk (Sl_below RA63.out hb)
    replace RA75 := Aside0.mk (Sl_below RA75.out hb)
    replace RA82 := Aside0.mk (Sl_below RA82.out hb)
    replace RA94 := Aside0.mk (Sl_below RA94.out hb)
    replace RA101 := Aside0.mk (Sl_below RA101.out hb)
    replace RA113 := Aside0.mk (Sl_below RA113.out hb)
    replace RA123 := Aside0.mk (Sl_below RA123.out hb)
    replace RA133 := Aside0.mk (Sl_below RA133.out hb)
    replace RA138 := Aside0.mk (Sl_below RA138.out hb)
    replace RA144 := Aside0.mk (Sl_below RA144.out hb)
    replace HB := Aside0.mk (below_step HB.out hb)
    clear hb
    replace RA151 := Aside0.mk RA151
    go_wp2_with fail
    refine (in_s RA75.out RA63.out).mono ?_
    rintro e w16 ⟨rfl, hb⟩
    replace XK := Aside0.mk (blk_below hb XK.out)
    replace XM := Aside0.mk (blk_below hb XM.out)
    replace RA63 := Aside0.mk (Sl_below RA63.out hb)
    replace RA75 := Aside0.mk (Sl_below RA75.out hb)
    replace RA82 := Aside0.mk (Sl_below RA82.out hb)
    replace RA94 := Aside0.mk (Sl_below RA94.out hb)
    replace RA101 := Aside0.mk (Sl_below RA101.out hb)
    replace RA113 := Aside0.mk (Sl_below RA113.out hb)
    replace RA123 := Aside0.mk (Sl_below RA123.out hb)
    replace RA133 := Aside0.mk (Sl_below RA133.out hb)
    replace RA138 := Aside0.mk (Sl_below RA138.out hb)
    replace RA144 := Aside0.mk (Sl_below RA144.out hb)
    replace RA151 := Aside0.mk (Sl_below RA151.out hb)
    replace HB := Aside0.mk (below_step HB.out hb)
    clear hb
    rw [more_slots]
    go_wp2_with fail
    refine (in_s RA94.out RA82.out).mono ?_
    rintro e w17 ⟨rfl, hb⟩
    replace XK := Aside0.mk (blk_below hb XK.out)
    replace XM := Aside0.mk (blk_below hb XM.out)
    replace RA63 := Aside0.mk (Sl_below RA63.out hb)
    replace RA75 := Aside0.mk (Sl_below RA75.out hb)
    replace RA82 := Aside0.mk (Sl_below RA82.out hb)
    replace RA94 := Aside0.mk (Sl_below RA94.out hb)
    replace RA101 := Aside0.mk (Sl_below RA101.out hb)
    replace RA113 := Aside0.mk (Sl_below RA113.out hb)
    replace RA123 := Aside0.mk (Sl_below RA123.out hb)
    replace RA133 := Aside0.mk (Sl_below RA133.out hb)
    replace RA138 := Aside0.mk (Sl_below RA138.out hb)
    replace RA144 := Aside0.mk (Sl_below RA144.out hb)
    replace RA151 := Aside0.mk (Sl_below RA151.out hb)
    replace HB := Aside0.mk (below_step HB.out hb)
    clear hb
    rw [more_eras]
    go_wp2_with fail
    refine (in_s RA113.out RA101.out).mono ?_
    rintro e w18 ⟨rfl, hb⟩
    replace XK := Aside0.mk (blk_below hb XK.out)
    replace XM := Aside0.mk (blk_below hb XM.out)
    replace RA63 := Aside0.mk (Sl_below RA63.out hb)
    replace RA75 := Aside0.mk (Sl_below RA75.out hb)
    replace RA82 := Aside0.mk (Sl_below RA82.out hb)
    replace RA94 := Aside0.mk (Sl_below RA94.out hb)
    replace RA101 := Aside0.mk (Sl_below RA101.out hb)
    replace RA113 := Aside0.mk (Sl_below RA113.out hb)
    replace RA123 := Aside0.mk (Sl_below RA123.out hb)
    replace RA133 := Aside0.mk (Sl_below RA133.out hb)
    replace RA138 := Aside0.mk (Sl_below RA138.out hb)
    replace RA144 := Aside0.mk (Sl_below RA144.out hb)
    replace RA151 := Aside0.mk (Sl_below RA151.out hb)
    replace HB := Aside0.mk (below_step HB.out hb)
    clear hb
    rw [more_spans]
    go_wp2_with fail
    refine (in_s RA133.out RA123.out).mono ?_
    rintro e w19 ⟨rfl, hb⟩
    replace XK := Aside0.mk (blk_below hb XK.out)
    replace XM := Aside0.mk (blk_below hb XM.out)
    replace RA63 := Aside0.mk (Sl_below RA63.out hb)
    replace RA75 := Aside0.mk (Sl_below RA75.out hb)
    replace RA82 := Aside0.mk (Sl_below RA82.out hb)
    replace RA94 := Aside0.mk (Sl_below RA94.out hb)
    replace RA101 := Aside0.mk (Sl_below RA101.out hb)
    replace RA113 := Aside0.mk (Sl_below RA113.out hb)
    replace RA123 := Aside0.mk (Sl_below RA123.out hb)
    replace RA133 := Aside0.mk (Sl_below RA133.out hb)
    replace RA138 := Aside0.mk (Sl_below RA138.out hb)
    replace RA144 := Aside0.mk (Sl_below RA144.out hb)
    replace RA151 := Aside0.mk (Sl_below RA151.out hb)
    replace HB := Aside0.mk (below_step HB.out hb)
    clear hb
    rw [more_epochs _ _ _ (by omega) (by omega)]
    go_wp2_with fail
    refine (same_s RA138.out (Sl_mk (Kd.C_below CA.out HB.out) hc)).mono ?_
    rintro e w20 ⟨rfl, hb⟩
    replace XK := Aside0.mk (blk_below hb XK.out)
    replace XM := Aside0.mk (blk_below hb XM.out)
    replace RA63 := Aside0.mk (Sl_below RA63.out hb)
    replace RA75 := Aside0.mk (Sl_below RA75.out hb)
    replace RA82 := Aside0.mk (Sl_below RA82.out hb)
    replace RA94 := Aside0.mk (Sl_below RA94.out hb)
    replace RA101 := Aside0.mk (Sl_below RA101.out hb)
    replace RA113 := Aside0.mk (Sl_below RA113.out hb)
    replace RA123 := Aside0.mk (Sl_below RA123.out hb)
    replace RA133 := Aside0.mk (Sl_below RA133.out hb)
    replace RA138 := Aside0.mk (Sl_below RA138.out hb)
    replace RA144 := Aside0.mk (Sl_below RA144.out hb)
    replace RA151 := Aside0.mk (Sl_below RA151.out hb)
    replace HB := Aside0.mk (below_step HB.out hb)
    clear hb
    rw [decide_eq_true (none_slots l)]
    go_wp2_with fail
    refine (same_s RA144.out (Sl_mk (Kd.C_below CA.out HB.out) hc)).mono ?_
    rintro e w21 ⟨rfl, hb⟩
    replace XK := Aside0.mk (blk_below hb XK.out)
    replace XM := Aside0.mk (blk_below hb XM.out)
    replace RA63 := Aside0.mk (Sl_below RA63.out hb)
    replace RA75 := Aside0.mk (Sl_below RA75.out hb)
    replace RA82 := Aside0.mk (Sl_below RA82.out hb)
    replace RA94 := Aside0.mk (Sl_below RA94.out hb)
    replace RA101 := Aside0.mk (Sl_below RA101.out hb)
    replace RA113 := Aside0.mk (Sl_below RA113.out hb)
    replace RA123 := Aside0.mk (Sl_below RA123.out hb)
    replace RA133 := Aside0.mk (Sl_below RA133.out hb)
    replace RA138 := Aside0.mk (Sl_below RA138.out hb)
    replace RA144 := Aside0.mk (Sl_below RA144.out hb)
    replace RA151 := Aside0.mk (Sl_below RA151.out hb)
    replace HB := Aside0.mk (below_step HB.out hb)
    clear hb
    rw [decide_eq_true (none_eras l)]
    go_wp2_with fail
    refine (same_s RA151.out (Sl_mk (Kd.C_below CA.out HB.out) hc)).mono ?_
    rintro e w22 ⟨rfl, hb⟩
    replace XK := Aside0.mk (blk_below hb XK.out)
    replace XM := Aside0.mk (blk_below hb XM.out)
    replace RA63 := Aside0.mk (Sl_below RA63.out hb)
    replace RA75 := Aside0.mk (Sl_below RA75.out hb)
    replace RA82 := Aside0.mk (Sl_below RA82.out hb)
    replace RA94 := Aside0.mk (Sl_below RA94.out hb)
    replace RA101 := Aside0.mk (Sl_below RA101.out hb)
    replace RA113 := Aside0.mk (Sl_below RA113.out hb)
    replace RA123 := Aside0.mk (Sl_below RA123.out hb)
    replace RA133 := Aside0.mk (Sl_below RA133.out hb)
    replace RA138 := Aside0.mk (Sl_below RA138.out hb)
    replace RA144 := Aside0.mk (Sl_below RA144.out hb)
    replace RA151 := Aside0.mk (Sl_below RA151.out hb)
    replace HB := Aside0.mk (below_step HB.out hb)
    clear hb
    rw [decide_eq_true (none_spans l 1099511627776)]
    go_wp2
    go_ret
    exact ⟨rfl, HB.out⟩
  · skip
    have x_XK0 : w10.cell? ⟨w.heap.size, 0, none⟩ = some (.slice Ak1 k.f0.length ck1) := (blk_cell XK.out 0).trans rfl
    have x_XK1 : w10.cell? ⟨w.heap.size, 1, none⟩ = some (.slice Ak2 k.f1.length ck2) := (blk_cell XK.out 1).trans rfl
    have x_XK2 : w10.cell? ⟨w.heap.size, 2, none⟩ = some (.slice Ak3 k.f2.length ck3) := (blk_cell XK.out 2).trans rfl
    have x_XK3 : w10.cell? ⟨w.heap.size, 3, none⟩ = some (.int .i64 k.f3) := (blk_cell XK.out 3).trans rfl
    have x_XM0 : w10.cell? ⟨w.heap.size + 1, 0, none⟩ = some (.slice Am1 m.f0.length cm1) := (blk_cell XM.out 0).trans rfl
    have x_XM1 : w10.cell? ⟨w.heap.size + 1, 1, none⟩ = some (.slice Am2 m.f1.length cm2) := (blk_cell XM.out 1).trans rfl
    have x_XM2 : w10.cell? ⟨w.heap.size + 1, 2, none⟩ = some (.slice Am3 m.f2.length cm3) := (blk_cell XM.out 2).trans rfl
    have x_XM3 : w10.cell? ⟨w.heap.size + 1, 3, none⟩ = some (.int .i64 m.f3) := (blk_cell XM.out 3).trans rfl
    go_wp2_with fail
    refine (Epochs_s (Sl_mk (Kd.C_below CA.out HB.out) hc) (by omega) (by omega)).mono ?_
    rintro e w11 ⟨a123_, b123_, rfl, RA123, _, hb⟩
    clear x_XK0 x_XK1 x_XK2 x_XK3 x_XM0 x_XM1 x_XM2 x_XM3
    replace XK := Aside0.mk (blk_below hb XK.out)
    replace XM := Aside0.mk (blk_below hb XM.out)
    replace RA63 := Aside0.mk (Sl_below RA63.out hb)
    replace RA75 := Aside0.mk (Sl_below RA75.out hb)
    replace RA82 := Aside0.mk (Sl_below RA82.out hb)
    replace RA94 := Aside0.mk (Sl_below RA94.out hb)
    replace RA101 := Aside0.mk (Sl_below RA101.out hb)
    replace RA113 := Aside0.mk (Sl_below RA113.out hb)
    replace HB := Aside0.mk (below_step HB.out hb)
    clear hb
    replace RA123 := Aside0.mk RA123
    have x_XK0 : w11.cell? ⟨w.heap.size, 0, none⟩ = some (.slice Ak1 k.f0.length ck1) := (blk_cell XK.out 0).trans rfl
    have x_XK1 : w11.cell? ⟨w.heap.size, 1, none⟩ = some (.slice Ak2 k.f1.length ck2) := (blk_cell XK.out 1).trans rfl
    have x_XK2 : w11.cell? ⟨w.heap.size, 2, none⟩ = some (.slice Ak3 k.f2.length ck3) := (blk_cell XK.out 2).trans rfl
    have x_XK3 : w11.cell? ⟨w.heap.size, 3, none⟩ = some (.int .i64 k.f3) := (blk_cell XK.out 3).trans rfl
    have x_XM0 : w11.cell? ⟨w.heap.size + 1, 0, none⟩ = some (.slice Am1 m.f0.length cm1) := (blk_cell XM.out 0).trans rfl
    have x_XM1 : w11.cell? ⟨w.heap.size + 1, 1, none⟩ = some (.slice Am2 m.f1.length cm2) := (blk_cell XM.out 1).trans rfl
    have x_XM2 : w11.cell? ⟨w.heap.size + 1, 2, none⟩ = some (.slice Am3 m.f2.length cm3) := (blk_cell XM.out 2).trans rfl
    have x_XM3 : w11.cell? ⟨w.heap.size + 1, 3, none⟩ = some (.int .i64 m.f3) := (blk_cell XM.out 3).trans rfl
    go_wp2_with fail
    refine (Epochs_s (Sl_mk (Kd.C_below CA.out HB.out) hc) (by omega) (by omega)).mono ?_
    rintro e w12 ⟨a133_, b133_, rfl, RA133, _, hb⟩
    clear x_XK0 x_XK1 x_XK2 x_XK3 x_XM0 x_XM1 x_XM2 x_XM3
    replace XK := Aside0.mk (blk_below hb XK.out)
    replace XM := Aside0.mk (blk_below hb XM.out)
    replace RA63 := Aside0.mk (Sl_below RA63.out hb)
    replace RA75 := Aside0.mk (Sl_below RA75.out hb)
    replace RA82 := Aside0.mk (Sl_below RA82.out hb)
    replace RA94 := Aside0.mk (Sl_below RA94.out hb)
    replace RA101 := Aside0.mk (Sl_below RA101.out hb)
    replace RA113 := Aside0.mk (Sl_below RA113.out hb)
    replace RA123 := Aside0.mk (Sl_below RA123.out hb)
    replace HB := Aside0.mk (below_step HB.out hb)
    clear hb
    replace RA133 := Aside0.mk RA133
    go_wp2_with fail
    refine (Slots_s (Sl_mk (Kd.C_below CA.out HB.out) hc) (by omega) (Sl_sc (Sl_nil _ _))).mono ?_
    rintro e w13 ⟨a138_, b138_, rfl, RA138, _, hb⟩
    replace XK := Aside0.mk (blk_below hb XK.out)
    replace XM := Aside0.mk (blk_below hb XM.out)
    replace RA63 := Aside0.mk (Sl_below RA63.out hb)
    replace RA75 := Aside0.mk (Sl_below RA75.out hb)
    replace RA82 := Aside0.mk (Sl_below RA82.out hb)
    replace RA94 := Aside0.mk (Sl_below RA94.out hb)
    replace RA101 := Aside0.mk (Sl_below RA101.out hb)
    replace RA113 := Aside0.mk (Sl_below RA113.out hb)
    replace RA123 := Aside0.mk (Sl_below RA123.out hb)
    replace RA133 := Aside0.mk (Sl_below RA133.out hb)
    replace HB := Aside0.mk (below_step HB.out hb)
    clear hb
    replace RA138 := Aside0.mk RA138
    go_wp2_with fail
    refine (Eras_s (Sl_mk (Kd.C_below CA.out (below_alloc HB.out _)) hc) (by omega) (Sl_sc (Sl_blk (xs := [0, -1]) (blk_new _ _) (Reps.cons (c := [_]) rfl rfl (Reps.cons (c := [_]) rfl rfl (Reps.none _ _))) (by simp)))).mono ?_
    rintro e w14 ⟨a144_, b144_, rfl, RA144, _, hb⟩
    replace hb := below_step (below_alloc (Below.refl _ _) _) hb
    replace XK := Aside0.mk (blk_below hb XK.out)
    replace XM := Aside0.mk (blk_below hb XM.out)
    replace RA63 := Aside0.mk (Sl_below RA63.out hb)
    replace RA75 := Aside0.mk (Sl_below RA75.out hb)
    replace RA82 := Aside0.mk (Sl_below RA82.out hb)
    replace RA94 := Aside0.mk (Sl_below RA94.out hb)
    replace RA101 := Aside0.mk (Sl_below RA101.out hb)
    replace RA113 := Aside0.mk (Sl_below RA113.out hb)
    replace RA123 := Aside0.mk (Sl_below RA123.out hb)
    replace RA133 := Aside0.mk (Sl_below RA133.out hb)
    replace RA138 := Aside0.mk (Sl_below RA138.out hb)
    replace HB := Aside0.mk (below_step HB.out hb)
    clear hb
    replace RA144 := Aside0.mk RA144
    go_wp2_with fail
    refine (Spans_s (Sl_mk (Kd.C_below CA.out (below_alloc HB.out _)) hc) (by omega) (Sl_sc (Sl_blk (xs := [⟨false, 0, 1099511627776⟩]) (blk_new _ _) (Reps.cons (k41_mk _ ⟨false, 0, 1099511627776⟩) rfl (Reps.none _ _)) (by simp)))).mono ?_
    rintro e w15 ⟨a151_, b151_, rfl, RA151, _, hb⟩
    replace hb := below_step (below_alloc (Below.refl _ _) _) hb
    replace XK := Aside0.mk (blk_below hb XK.out)
    replace XM := Aside0.mk (blk_below hb XM.out)
    replace RA63 := Aside0.mk (Sl_below RA63.out hb)
    replace RA75 := Aside0.mk (Sl_below RA75.out hb)
    replace RA82 := Aside0.mk (Sl_below RA82.out hb)
    replace RA94 := Aside0.mk (Sl_below RA94.out hb)
    replace RA101 := Aside0.mk (Sl_below RA101.out hb)
    replace RA113 := Aside0.mk (Sl_below RA113.out hb)
    replace RA123 := Aside0.mk (Sl_below RA123.out hb)
    replace RA133 := Aside0.mk (Sl_below RA133.out hb)
    replace RA138 := Aside0.mk (Sl_below RA138.out hb)
    replace RA144 := Aside0.mk (Sl_below RA144.out hb)
    replace HB := Aside0.mk (below_step HB.out hb)
    clear hb
    replace RA151 := Aside0.mk RA151
    go_wp2_with fail
    refine (in_s RA75.out RA63.out).mono ?_
    rintro e w16 ⟨rfl, hb⟩
    replace XK := Aside0.mk (blk_below hb XK.out)
    replace XM := Aside0.mk (blk_below hb XM.out)
    replace RA63 := Aside0.mk (Sl_below RA63.out hb)
    replace RA75 := Aside0.mk (Sl_below RA75.out hb)
    replace RA82 := Aside0.mk (Sl_below RA82.out hb)
    replace RA94 := Aside0.mk (Sl_below RA94.out hb)
    replace RA101 := Aside0.mk (Sl_below RA101.out hb)
    replace RA113 := Aside0.mk (Sl_below RA113.out hb)
    replace RA123 := Aside0.mk (Sl_below RA123.out hb)
    replace RA133 := Aside0.mk (Sl_below RA133.out hb)
    replace RA138 := Aside0.mk (Sl_below RA138.out hb)
    replace RA144 := Aside0.mk (Sl_below RA144.out hb)
    replace RA151 := Aside0.mk (Sl_below RA151.out hb)
    replace HB := Aside0.mk (below_step HB.out hb)
    clear hb
    rw [more_slots]
    go_wp2_with fail
    refine (in_s RA94.out RA82.out).mono ?_
    rintro e w17 ⟨rfl, hb⟩
    replace XK := Aside0.mk (blk_below hb XK.out)
    replace XM := Aside0.mk (blk_below hb XM.out)
    replace RA63 := Aside0.mk (Sl_below RA63.out hb)
    replace RA75 := Aside0.mk (Sl_below RA75.out hb)
    replace RA82 := Aside0.mk (Sl_below RA82.out hb)
    replace RA94 := Aside0.mk (Sl_below RA94.out hb)
    replace RA101 := Aside0.mk (Sl_below RA101.out hb)
    replace RA113 := Aside0.mk (Sl_below RA113.out hb)
    replace RA123 := Aside0.mk (Sl_below RA123.out hb)
    replace RA133 := Aside0.mk (Sl_below RA133.out hb)
    replace RA138 := Aside0.mk (Sl_below RA138.out hb)
    replace RA144 := Aside0.mk (Sl_below RA144.out hb)
    replace RA151 := Aside0.mk (Sl_below RA151.out hb)
    replace HB := Aside0.mk (below_step HB.out hb)
    clear hb
    rw [more_eras]
    go_wp2_with fail
    refine (in_s RA113.out RA101.out).mono ?_
    rintro e w18 ⟨rfl, hb⟩
    replace XK := Aside0.mk (blk_below hb XK.out)
    replace XM := Aside0.mk (blk_below hb XM.out)
    replace RA63 := Aside0.mk (Sl_below RA63.out hb)
    replace RA75 := Aside0.mk (Sl_below RA75.out hb)
    replace RA82 := Aside0.mk (Sl_below RA82.out hb)
    replace RA94 := Aside0.mk (Sl_below RA94.out hb)
    replace RA101 := Aside0.mk (Sl_below RA101.out hb)
    replace RA113 := Aside0.mk (Sl_below RA113.out hb)
    replace RA123 := Aside0.mk (Sl_below RA123.out hb)
    replace RA133 := Aside0.mk (Sl_below RA133.out hb)
    replace RA138 := Aside0.mk (Sl_below RA138.out hb)
    replace RA144 := Aside0.mk (Sl_below RA144.out hb)
    replace RA151 := Aside0.mk (Sl_below RA151.out hb)
    replace HB := Aside0.mk (below_step HB.out hb)
    clear hb
    rw [more_spans]
    go_wp2_with fail
    refine (in_s RA133.out RA123.out).mono ?_
    rintro e w19 ⟨rfl, hb⟩
    replace XK := Aside0.mk (blk_below hb XK.out)
    replace XM := Aside0.mk (blk_below hb XM.out)
    replace RA63 := Aside0.mk (Sl_below RA63.out hb)
    replace RA75 := Aside0.mk (Sl_below RA75.out hb)
    replace RA82 := Aside0.mk (Sl_below RA82.out hb)
    replace RA94 := Aside0.mk (Sl_below RA94.out hb)
    replace RA101 := Aside0.mk (Sl_below RA101.out hb)
    replace RA113 := Aside0.mk (Sl_below RA113.out hb)
    replace RA123 := Aside0.mk (Sl_below RA123.out hb)
    replace RA133 := Aside0.mk (Sl_below RA133.out hb)
    replace RA138 := Aside0.mk (Sl_below RA138.out hb)
    replace RA144 := Aside0.mk (Sl_below RA144.out hb)
    replace RA151 := Aside0.mk (Sl_below RA151.out hb)
    replace HB := Aside0.mk (below_step HB.out hb)
    clear hb
    rw [more_epochs _ _ _ (by omega) (by omega)]
    go_wp2_with fail
    refine (same_s RA138.out (Sl_mk (Kd.C_below CA.out HB.out) hc)).mono ?_
    rintro e w20 ⟨rfl, hb⟩
    replace XK := Aside0.mk (blk_below hb XK.out)
    replace XM := Aside0.mk (blk_below hb XM.out)
    replace RA63 := Aside0.mk (Sl_below RA63.out hb)
    replace RA75 := Aside0.mk (Sl_below RA75.out hb)
    replace RA82 := Aside0.mk (Sl_below RA82.out hb)
    replace RA94 := Aside0.mk (Sl_below RA94.out hb)
    replace RA101 := Aside0.mk (Sl_below RA101.out hb)
    replace RA113 := Aside0.mk (Sl_below RA113.out hb)
    replace RA123 := Aside0.mk (Sl_below RA123.out hb)
    replace RA133 := Aside0.mk (Sl_below RA133.out hb)
    replace RA138 := Aside0.mk (Sl_below RA138.out hb)
    replace RA144 := Aside0.mk (Sl_below RA144.out hb)
    replace RA151 := Aside0.mk (Sl_below RA151.out hb)
    replace HB := Aside0.mk (below_step HB.out hb)
    clear hb
    rw [decide_eq_true (none_slots l)]
    go_wp2_with fail
    refine (same_s RA144.out (Sl_mk (Kd.C_below CA.out HB.out) hc)).mono ?_
    rintro e w21 ⟨rfl, hb⟩
    replace XK := Aside0.mk (blk_below hb XK.out)
    replace XM := Aside0.mk (blk_below hb XM.out)
    replace RA63 := Aside0.mk (Sl_below RA63.out hb)
    replace RA75 := Aside0.mk (Sl_below RA75.out hb)
    replace RA82 := Aside0.mk (Sl_below RA82.out hb)
    replace RA94 := Aside0.mk (Sl_below RA94.out hb)
    replace RA101 := Aside0.mk (Sl_below RA101.out hb)
    replace RA113 := Aside0.mk (Sl_below RA113.out hb)
    replace RA123 := Aside0.mk (Sl_below RA123.out hb)
    replace RA133 := Aside0.mk (Sl_below RA133.out hb)
    replace RA138 := Aside0.mk (Sl_below RA138.out hb)
    replace RA144 := Aside0.mk (Sl_below RA144.out hb)
    replace RA151 := Aside0.mk (Sl_below RA151.out hb)
    replace HB := Aside0.mk (below_step HB.out hb)
    clear hb
    rw [decide_eq_true (none_eras l)]
    go_wp2_with fail
    refine (same_s RA151.out (Sl_mk (Kd.C_below CA.out HB.out) hc)).mono ?_
    rintro e w22 ⟨rfl, hb⟩
    replace XK := Aside0.mk (blk_below hb XK.out)
    replace XM := Aside0.mk (blk_below hb XM.out)
    replace RA63 := Aside0.mk (Sl_below RA63.out hb)
    replace RA75 := Aside0.mk (Sl_below RA75.out hb)
    replace RA82 := Aside0.mk (Sl_below RA82.out hb)
    replace RA94 := Aside0.mk (Sl_below RA94.out hb)
    replace RA101 := Aside0.mk (Sl_below RA101.out hb)
    replace RA113 := Aside0.mk (Sl_below RA113.out hb)
    replace RA123 := Aside0.mk (Sl_below RA123.out hb)
    replace RA133 := Aside0.mk (Sl_below RA133.out hb)
    replace RA138 := Aside0.mk (Sl_below RA138.out hb)
    replace RA144 := Aside0.mk (Sl_below RA144.out hb)
    replace RA151 := Aside0.mk (Sl_below RA151.out hb)
    replace HB := Aside0.mk (below_step HB.out hb)
    clear hb
    rw [decide_eq_true (none_spans l 1099511627776)]
    go_wp2
    go_ret
    exact ⟨rfl, HB.out⟩
  · skip
    have x_XK0 : w10.cell? ⟨w.heap.size, 0, none⟩ = some (.slice Ak1 k.f0.length ck1) := (blk_cell XK.out 0).trans rfl
    have x_XK1 : w10.cell? ⟨w.heap.size, 1, none⟩ = some (.slice Ak2 k.f1.length ck2) := (blk_cell XK.out 1).trans rfl
    have x_XK2 : w10.cell? ⟨w.heap.size, 2, none⟩ = some (.slice Ak3 k.f2.length ck3) := (blk_cell XK.out 2).trans rfl
    have x_XK3 : w10.cell? ⟨w.heap.size, 3, none⟩ = some (.int .i64 k.f3) := (blk_cell XK.out 3).trans rfl
    have x_XM0 : w10.cell? ⟨w.heap.size + 1, 0, none⟩ = some (.slice Am1 m.f0.length cm1) := (blk_cell XM.out 0).trans rfl
    have x_XM1 : w10.cell? ⟨w.heap.size + 1, 1, none⟩ = some (.slice Am2 m.f1.length cm2) := (blk_cell XM.out 1).trans rfl
    have x_XM2 : w10.cell? ⟨w.heap.size + 1, 2, none⟩ = some (.slice Am3 m.f2.length cm3) := (blk_cell XM.out 2).trans rfl
    have x_XM3 : w10.cell? ⟨w.heap.size + 1, 3, none⟩ = some (.int .i64 m.f3) := (blk_cell XM.out 3).trans rfl
    go_wp2_with fail
    refine (Epochs_s (Sl_mk (Kd.C_below CA.out HB.out) hc) (by omega) (by omega)).mono ?_
    rintro e w11 ⟨a123_, b123_, rfl, RA123, _, hb⟩
    clear x_XK0 x_XK1 x_XK2 x_XK3 x_XM0 x_XM1 x_XM2 x_XM3
    replace XK := Aside0.mk (blk_below hb XK.out)
    replace XM := Aside0.mk (blk_below hb XM.out)
    replace RA63 := Aside0.mk (Sl_below RA63.out hb)
    replace RA75 := Aside0.mk (Sl_below RA75.out hb)
    replace RA82 := Aside0.mk (Sl_below RA82.out hb)
    replace RA94 := Aside0.mk (Sl_below RA94.out hb)
    replace RA101 := Aside0.mk (Sl_below RA101.out hb)
    replace RA113 := Aside0.mk (Sl_below RA113.out hb)
    replace HB := Aside0.mk (below_step HB.out hb)
    clear hb
    replace RA123 := Aside0.mk RA123
    have x_XK0 : w11.cell? ⟨w.heap.size, 0, none⟩ = some (.slice Ak1 k.f0.length ck1) := (blk_cell XK.out 0).trans rfl
    have x_XK1 : w11.cell? ⟨w.heap.size, 1, none⟩ = some (.slice Ak2 k.f1.length ck2) := (blk_cell XK.out 1).trans rfl
    have x_XK2 : w11.cell? ⟨w.heap.size, 2, none⟩ = some (.slice Ak3 k.f2.length ck3) := (blk_cell XK.out 2).trans rfl
    have x_XK3 : w11.cell? ⟨w.heap.size, 3, none⟩ = some (.int .i64 k.f3) := (blk_cell XK.out 3).trans rfl
    have x_XM0 : w11.cell? ⟨w.heap.size + 1, 0, none⟩ = some (.slice Am1 m.f0.length cm1) := (blk_cell XM.out 0).trans rfl
    have x_XM1 : w11.cell? ⟨w.heap.size + 1, 1, none⟩ = some (.slice Am2 m.f1.length cm2) := (blk_cell XM.out 1).trans rfl
    have x_XM2 : w11.cell? ⟨w.heap.size + 1, 2, none⟩ = some (.slice Am3 m.f2.length cm3) := (blk_cell XM.out 2).trans rfl
    have x_XM3 : w11.cell? ⟨w.heap.size + 1, 3, none⟩ = some (.int .i64 m.f3) := (blk_cell XM.out 3).trans rfl
    go_wp2_with fail
    refine (Epochs_s (Sl_mk (Kd.C_below CA.out HB.out) hc) (by omega) (by omega)).mono ?_
    rintro e w12 ⟨a133_, b133_, rfl, RA133, _, hb⟩
    clear x_XK0 x_XK1 x_XK2 x_XK3 x_XM0 x_XM1 x_XM2 x_XM3
    replace XK := Aside0.mk (blk_below hb XK.out)
    replace XM := Aside0.mk (blk_below hb XM.out)
    replace RA63 := Aside0.mk (Sl_below RA63.out hb)
    replace RA75 := Aside0.mk (Sl_below RA75.out hb)
    replace RA82 := Aside0.mk (Sl_below RA82.out hb)
    replace RA94 := Aside0.mk (Sl_below RA94.out hb)
    replace RA101 := Aside0.mk (Sl_below RA101.out hb)
    replace RA113 := Aside0.mk (Sl_below RA113.out hb)
    replace RA123 := Aside0.mk (Sl_below RA123.out hb)
    replace HB := Aside0.mk (below_step HB.out hb)
    clear hb
    replace RA133 := Aside0.mk RA133
    go_wp2_with fail
    refine (Slots_s (Sl_mk (Kd.C_below CA.out HB.out) hc) (by omega) (Sl_sc (Sl_nil _ _))).mono ?_
    rintro e w13 ⟨a138_, b138_, rfl, RA138, _, hb⟩
    replace XK := Aside0.mk (blk_below hb XK.out)
    replace XM := Aside0.mk (blk_below hb XM.out)
    replace RA63 := Aside0.mk (Sl_below RA63.out hb)
    replace RA75 := Aside0.mk (Sl_below RA75.out hb)
    replace RA82 := Aside0.mk (Sl_below RA82.out hb)
    replace RA94 := Aside0.mk (Sl_below RA94.out hb)
    replace RA101 := Aside0.mk (Sl_below RA101.out hb)
    replace RA113 := Aside0.mk (Sl_below RA113.out hb)
    replace RA123 := Aside0.mk (Sl_below RA123.out hb)
    replace RA133 := Aside0.mk (Sl_below RA133.out hb)
    replace HB := Aside0.mk (below_step HB.out hb)
    clear hb
    replace RA138 := Aside0.mk RA138
    go_wp2_with fail
    refine (Eras_s (Sl_mk (Kd.C_below CA.out (below_alloc HB.out _)) hc) (by omega) (Sl_sc (Sl_blk (xs := [0, -1]) (blk_new _ _) (Reps.cons (c := [_]) rfl rfl (Reps.cons (c := [_]) rfl rfl (Reps.none _ _))) (by simp)))).mono ?_
    rintro e w14 ⟨a144_, b144_, rfl, RA144, _, hb⟩
    replace hb := below_step (below_alloc (Below.refl _ _) _) hb
    replace XK := Aside0.mk (blk_below hb XK.out)
    replace XM := Aside0.mk (blk_below hb XM.out)
    replace RA63 := Aside0.mk (Sl_below RA63.out hb)
    replace RA75 := Aside0.mk (Sl_below RA75.out hb)
    replace RA82 := Aside0.mk (Sl_below RA82.out hb)
    replace RA94 := Aside0.mk (Sl_below RA94.out hb)
    replace RA101 := Aside0.mk (Sl_below RA101.out hb)
    replace RA113 := Aside0.mk (Sl_below RA113.out hb)
    replace RA123 := Aside0.mk (Sl_below RA123.out hb)
    replace RA133 := Aside0.mk (Sl_below RA133.out hb)
    replace RA138 := Aside0.mk (Sl_below RA138.out hb)
    replace HB := Aside0.mk (below_step HB.out hb)
    clear hb
    replace RA144 := Aside0.mk RA144
    go_wp2_with fail
    refine (Spans_s (Sl_mk (Kd.C_below CA.out (below_alloc HB.out _)) hc) (by omega) (Sl_sc (Sl_blk (xs := [⟨false, 0, 1099511627776⟩]) (blk_new _ _) (Reps.cons (k41_mk _ ⟨false, 0, 1099511627776⟩) rfl (Reps.none _ _)) (by simp)))).mono ?_
    rintro e w15 ⟨a151_, b151_, rfl, RA151, _, hb⟩
    replace hb := below_step (below_alloc (Below.refl _ _) _) hb
    replace XK := Aside0.mk (blk_below hb XK.out)
    replace XM := Aside0.mk (blk_below hb XM.out)
    replace RA63 := Aside0.mk (Sl_below RA63.out hb)
    replace RA75 := Aside0.mk (Sl_below RA75.out hb)
    replace RA82 := Aside0.mk (Sl_below RA82.out hb)
    replace RA94 := Aside0.mk (Sl_below RA94.out hb)
    replace RA101 := Aside0.mk (Sl_below RA101.out hb)
    replace RA113 := Aside0.mk (Sl_below RA113.out hb)
    replace RA123 := Aside0.mk (Sl_below RA123.out hb)
    replace RA133 := Aside0.mk (Sl_below RA133.out hb)
    replace RA138 := Aside0.mk (Sl_below RA138.out hb)
    replace RA144 := Aside0.mk (Sl_below RA144.out hb)
    replace HB := Aside0.mk (below_step HB.out hb)
    clear hb
    replace RA151 := Aside0.mk RA151
    go_wp2_with fail
    refine (in_s RA75.out RA63.out).mono ?_
    rintro e w16 ⟨rfl, hb⟩
    replace XK := Aside0.mk (blk_below hb XK.out)
    replace XM := Aside0.mk (blk_below hb XM.out)
    replace RA63 := Aside0.mk (Sl_below RA63.out hb)
    replace RA75 := Aside0.mk (Sl_below RA75.out hb)
    replace RA82 := Aside0.mk (Sl_below RA82.out hb)
    replace RA94 := Aside0.mk (Sl_below RA94.out hb)
    replace RA101 := Aside0.mk (Sl_below RA101.out hb)
    replace RA113 := Aside0.mk (Sl_below RA113.out hb)
    replace RA123 := Aside0.mk (Sl_below RA123.out hb)
    replace RA133 := Aside0.mk (Sl_below RA133.out hb)
    replace RA138 := Aside0.mk (Sl_below RA138.out hb)
    replace RA144 := Aside0.mk (Sl_below RA144.out hb)
    replace RA151 := Aside0.mk (Sl_below RA151.out hb)
    replace HB := Aside0.mk (below_step HB.out hb)
    clear hb
    rw [more_slots]
    go_wp2_with fail
    refine (in_s RA94.out RA82.out).mono ?_
    rintro e w17 ⟨rfl, hb⟩
    replace XK := Aside0.mk (blk_below hb XK.out)
    replace XM := Aside0.mk (blk_below hb XM.out)
    replace RA63 := Aside0.mk (Sl_below RA63.out hb)
    replace RA75 := Aside0.mk (Sl_below RA75.out hb)
    replace RA82 := Aside0.mk (Sl_below RA82.out hb)
    replace RA94 := Aside0.mk (Sl_below RA94.out hb)
    replace RA101 := Aside0.mk (Sl_below RA101.out hb)
    replace RA113 := Aside0.mk (Sl_below RA113.out hb)
    replace RA123 := Aside0.mk (Sl_below RA123.out hb)
    replace RA133 := Aside0.mk (Sl_below RA133.out hb)
    replace RA138 := Aside0.mk (Sl_below RA138.out hb)
    replace RA144 := Aside0.mk (Sl_below RA144.out hb)
    replace RA151 := Aside0.mk (Sl_below RA151.out hb)
    replace HB := Aside0.mk (below_step HB.out hb)
    clear hb
    rw [more_eras]
    go_wp2_with fail
    refine (in_s RA113.out RA101.out).mono ?_
    rintro e w18 ⟨rfl, hb⟩
    replace XK := Aside0.mk (blk_below hb XK.out)
    replace XM := Aside0.mk (blk_below hb XM.out)
    replace RA63 := Aside0.mk (Sl_below RA63.out hb)
    replace RA75 := Aside0.mk (Sl_below RA75.out hb)
    replace RA82 := Aside0.mk (Sl_below RA82.out hb)
    replace RA94 := Aside0.mk (Sl_below RA94.out hb)
    replace RA101 := Aside0.mk (Sl_below RA101.out hb)
    replace RA113 := Aside0.mk (Sl_below RA113.out hb)
    replace RA123 := Aside0.mk (Sl_below RA123.out hb)
    replace RA133 := Aside0.mk (Sl_below RA133.out hb)
    replace RA138 := Aside0.mk (Sl_below RA138.out hb)
    replace RA144 := Aside0.mk (Sl_below RA144.out hb)
    replace RA151 := Aside0.mk (Sl_below RA151.out hb)
    replace HB := Aside0.mk (below_step HB.out hb)
    clear hb
    rw [more_spans]
    go_wp2_with fail
    refine (in_s RA133.out RA123.out).mono ?_
    rintro e w19 ⟨rfl, hb⟩
    replace XK := Aside0.mk (blk_below hb XK.out)
    replace XM := Aside0.mk (blk_below hb XM.out)
    replace RA63 := Aside0.mk (Sl_below RA63.out hb)
    replace RA75 := Aside0.mk (Sl_below RA75.out hb)
    replace RA82 := Aside0.mk (Sl_below RA82.out hb)
    replace RA94 := Aside0.mk (Sl_below RA94.out hb)
    replace RA101 := Aside0.mk (Sl_below RA101.out hb)
    replace RA113 := Aside0.mk (Sl_below RA113.out hb)
    replace RA123 := Aside0.mk (Sl_below RA123.out hb)
    replace RA133 := Aside0.mk (Sl_below RA133.out hb)
    replace RA138 := Aside0.mk (Sl_below RA138.out hb)
    replace RA144 := Aside0.mk (Sl_below RA144.out hb)
    replace RA151 := Aside0.mk (Sl_below RA151.out hb)
    replace HB := Aside0.mk (below_step HB.out hb)
    clear hb
    rw [more_epochs _ _ _ (by omega) (by omega)]
    go_wp2_with fail
    refine (same_s RA138.out (Sl_mk (Kd.C_below CA.out HB.out) hc)).mono ?_
    rintro e w20 ⟨rfl, hb⟩
    replace XK := Aside0.mk (blk_below hb XK.out)
    replace XM := Aside0.mk (blk_below hb XM.out)
    replace RA63 := Aside0.mk (Sl_below RA63.out hb)
    replace RA75 := Aside0.mk (Sl_below RA75.out hb)
    replace RA82 := Aside0.mk (Sl_below RA82.out hb)
    replace RA94 := Aside0.mk (Sl_below RA94.out hb)
    replace RA101 := Aside0.mk (Sl_below RA101.out hb)
    replace RA113 := Aside0.mk (Sl_below RA113.out hb)
    replace RA123 := Aside0.mk (Sl_below RA123.out hb)
    replace RA133 := Aside0.mk (Sl_below RA133.out hb)
    replace RA138 := Aside0.mk (Sl_below RA138.out hb)
    replace RA144 := Aside0.mk (Sl_below RA144.out hb)
    replace RA151 := Aside0.mk (Sl_below RA151.out hb)
    replace HB := Aside0.mk (below_step HB.out hb)
    clear hb
    rw [decide_eq_true (none_slots l)]
    go_wp2_with fail
    refine (same_s RA144.out (Sl_mk (Kd.C_below CA.out HB.out) hc)).mono ?_
    rintro e w21 ⟨rfl, hb⟩
    replace XK := Aside0.mk (blk_below hb XK.out)
    replace XM := Aside0.mk (blk_below hb XM.out)
    replace RA63 := Aside0.mk (Sl_below RA63.out hb)
    replace RA75 := Aside0.mk (Sl_below RA75.out hb)
    replace RA82 := Aside0.mk (Sl_below RA82.out hb)
    replace RA94 := Aside0.mk (Sl_below RA94.out hb)
    replace RA101 := Aside0.mk (Sl_below RA101.out hb)
    replace RA113 := Aside0.mk (Sl_below RA113.out hb)
    replace RA123 := Aside0.mk (Sl_below RA123.out hb)
    replace RA133 := Aside0.mk (Sl_below RA133.out hb)
    replace RA138 := Aside0.mk (Sl_below RA138.out hb)
    replace RA144 := Aside0.mk (Sl_below RA144.out hb)
    replace RA151 := Aside0.mk (Sl_below RA151.out hb)
    replace HB := Aside0.mk (below_step HB.out hb)
    clear hb
    rw [decide_eq_true (none_eras l)]
    go_wp2_with fail
    refine (same_s RA151.out (Sl_mk (Kd.C_below CA.out HB.out) hc)).mono ?_
    rintro e w22 ⟨rfl, hb⟩
    replace XK := Aside0.mk (blk_below hb XK.out)
    replace XM := Aside0.mk (blk_below hb XM.out)
    replace RA63 := Aside0.mk (Sl_below RA63.out hb)
    replace RA75 := Aside0.mk (Sl_below RA75.out hb)
    replace RA82 := Aside0.mk (Sl_below RA82.out hb)
    replace RA94 := Aside0.mk (Sl_below RA94.out hb)
    replace RA101 := Aside0.mk (Sl_below RA101.out hb)
    replace RA113 := Aside0.mk (Sl_below RA113.out hb)
    replace RA123 := Aside0.mk (Sl_below RA123.out hb)
    replace RA133 := Aside0.mk (Sl_below RA133.out hb)
    replace RA138 := Aside0.mk (Sl_below RA138.out hb)
    replace RA144 := Aside0.mk (Sl_below RA144.out hb)
    replace RA151 := Aside0.mk (Sl_below RA151.out hb)
    replace HB := Aside0.mk (below_step HB.out hb)
    clear hb
    rw [decide_eq_true (none_spans l 1099511627776)]
    go_wp2
    go_ret
    exact ⟨rfl, HB.out⟩
end Go.Proofs.Ytcnhjbpgjemnhaa.Sv
