/- SieveGuards: what a thread keeps stays. -/
import Derived.Test.YtcnhjbpgjemnhaaSvD
import Derived.Test.YtcnhjbpgjemnhaaSvW
import Derived.Test.YtcnhjbpgjemnhaaWInvWords
namespace Go.Proofs.Ytcnhjbpgjemnhaa.Sv
open Go.RowKit Go.Proofs.YtcnhjbpgjemnhaaW.PrintWords Go.Proofs.YtcnhjbpgjemnhaaW.PrintLast Go.Proofs.YtcnhjbpgjemnhaaW.PrintMore Go.Proofs.Ytcnhjbpgjemnhaa.X
set_option linter.unusedVariables false
set_option linter.unusedSimpArgs false
attribute [local go_sem ↓] Go.wp_at_zero Go.wp_at_succ

def guards.T6 : Bool × List (List Nat × List Nat) := (true, [([], []), ([], []), ([], []), ([2], [2]), ([1, 3], [1, 3]), ([], []), ([5], [5]), ([6], [6]), ([7], [7]), ([8], [8]), ([4, 9, 4], [4, 9]), ([0, 10, 10], [0, 10]), ([11], [11]), ([12], [12]), ([12], [12]), ([13, 11, 0, 1, 2, 3, 4, 5, 6, 7, 8, 9, 10, 11, 12, 13], [13]), ([14, 15, 0, 1, 2, 3, 4, 5, 6, 7, 8, 9, 10, 11, 12, 13, 14, 15], [14])])
def guards.B6 : List Nat := [0, 0, 0, 4, 14, 0, 32, 96, 224, 480, 1022, 2047, 4095, 8191, 8191, 16383, 65535]
theorem guards.tab6 : rtab .any (opsOf Try.f5 6) = guards.T6 := by kernel_rfl
theorem guards.bits6 : waitsOk guards.T6.2 guards.B6 = true := by kernel_rfl
def guards.T8 : Bool × List (List Nat × List Nat) := (true, [([], []), ([], []), ([], []), ([2], [2]), ([1, 3], [1, 3]), ([], []), ([5], [5]), ([4, 6, 4], [4, 6]), ([0, 7, 7], [0, 7]), ([8], [8]), ([9], [9]), ([9], [9]), ([10, 8, 0, 1, 2, 3, 4, 5, 6, 7, 8, 9, 10], [10]), ([11, 12, 0, 1, 2, 3, 4, 5, 6, 7, 8, 9, 10, 11, 12], [11])])
def guards.B8 : List Nat := [0, 0, 0, 4, 14, 0, 32, 126, 255, 511, 1023, 1023, 2047, 8191]
theorem guards.tab8 : rtab .any (opsOf Try.f5 8) = guards.T8 := by kernel_rfl
theorem guards.bits8 : waitsOk guards.T8.2 guards.B8 = true := by kernel_rfl
def nC (n : S39) : Array Value := #[.int .i64 n.f0.f0, .int .i64 n.f0.f1, .int .i64 n.f0.f2, .int .i64 n.f0.f3, .bool n.f0.f4, .int .i64 n.f1, .int .i64 n.f2]
set_option maxHeartbeats 4000000 in
set_option maxRecDepth 100000 in
theorem guards_walk (n : S39) (era : Int) (s : S41) (k : S27) (Ak1 Ak2 Ak3 : Option Addr) (ck1 ck2 ck3 : Nat) (w : World)
    (k1 : Kd.C k37 w Ak1 k.f0.length k.f0) (k2 : Kd.C (Kd.int .i64) w Ak2 k.f1.length k.f1) (k3 : Kd.C k41 w Ak3 k.f2.length k.f2) :
    Calls Try.prog 5 #[.agg #[.int .i64 n.f0.f0, .int .i64 n.f0.f1, .int .i64 n.f0.f2, .int .i64 n.f0.f3, .bool n.f0.f4, .int .i64 n.f1, .int .i64 n.f2], .int .i64 era, .agg #[.bool s.f0, .int .i64 s.f1, .int .i64 s.f2], .agg #[.slice Ak1 k.f0.length ck1, .slice Ak2 k.f1.length ck2, .slice Ak3 k.f2.length ck3, .int .i64 k.f3]] w fun e w' => e = .returned (.bool true) ∧ Below w.heap.size w w' := by
  have hu27 := Try.underlying27
  have hu39 := Try.underlying39
  have hu37 := Try.underlying37
  have hu41 := Try.underlying41
  obtain ⟨oN, hoN⟩ : ∃ o : Obj, o = .cells #[.int .i64 n.f0.f0, .int .i64 n.f0.f1, .int .i64 n.f0.f2, .int .i64 n.f0.f3, .bool n.f0.f4, .int .i64 n.f1, .int .i64 n.f2] 39 := ⟨_, rfl⟩
  obtain ⟨oS, hoS⟩ : ∃ o : Obj, o = .cells #[.bool s.f0, .int .i64 s.f1, .int .i64 s.f2] 41 := ⟨_, rfl⟩
  obtain ⟨oK, hoK⟩ : ∃ o : Obj, o = .cells #[.slice Ak1 k.f0.length ck1, .slice Ak2 k.f1.length ck2, .slice Ak3 k.f2.length ck3, .int .i64 k.f3] 27 := ⟨_, rfl⟩
  have hb0 := below_alloc (below_alloc (below_alloc (Below.refl w.heap.size w) oN) oS) oK
  have y1 : (((w.alloc oN).alloc oS).alloc oK).heap[w.heap.size]? = some oN := blk_alloc (blk_alloc (blk_new _ _) _) _
  have y2 : (((w.alloc oN).alloc oS).alloc oK).heap[w.heap.size + 1]? = some oS := blk_alloc (by simpa using blk_new (w.alloc oN) oS) _
  have y3 : (((w.alloc oN).alloc oS).alloc oK).heap[w.heap.size + 1 + 1]? = some oK := by simpa using blk_new ((w.alloc oN).alloc oS) oK
  rw [hoN, hoS, hoK] at y1 y2 y3 hb0
  have K1 := Aside0.mk k1
  clear k1
  have K2 := Aside0.mk k2
  clear k2
  have K3 := Aside0.mk k3
  clear k3
  have HB0 := Aside0.mk hb0
  clear hb0
  have Y1 := Aside0.mk y1
  clear y1
  have Y2 := Aside0.mk y2
  clear y2
  have Y3 := Aside0.mk y3
  clear y3
  clear hoN hoS hoK oN oS oK
  go_enter Try.func5, Try.ntmps5
  go_wp2_with fail
  refine (awake_c _).mono ?_
  rintro e w2 ⟨rfl, hb1⟩
  have XN := Aside0.mk (blk_below hb1 Y1.out)
  have XS := Aside0.mk (blk_below hb1 Y2.out)
  have XK := Aside0.mk (blk_below hb1 Y3.out)
  have HB := Aside0.mk (below_step HB0.out hb1)
  clear hb1 HB0 Y1 Y2 Y3
  have x_XN0 : w2.cell? ⟨w.heap.size, 0, none⟩ = some (.int .i64 n.f0.f0) := (blk_cell XN.out 0).trans rfl
  have x_XN1 : w2.cell? ⟨w.heap.size, 1, none⟩ = some (.int .i64 n.f0.f1) := (blk_cell XN.out 1).trans rfl
  have x_XN2 : w2.cell? ⟨w.heap.size, 2, none⟩ = some (.int .i64 n.f0.f2) := (blk_cell XN.out 2).trans rfl
  have x_XN3 : w2.cell? ⟨w.heap.size, 3, none⟩ = some (.int .i64 n.f0.f3) := (blk_cell XN.out 3).trans rfl
  have x_XN4 : w2.cell? ⟨w.heap.size, 4, none⟩ = some (.bool n.f0.f4) := (blk_cell XN.out 4).trans rfl
  have x_XN5 : w2.cell? ⟨w.heap.size, 5, none⟩ = some (.int .i64 n.f1) := (blk_cell XN.out 5).trans rfl
  have x_XN6 : w2.cell? ⟨w.heap.size, 6, none⟩ = some (.int .i64 n.f2) := (blk_cell XN.out 6).trans rfl
  have x_K0 : (w2.alloc (.cells #[.int .i64 n.f0.f0, .int .i64 n.f0.f1, .int .i64 n.f0.f2, .int .i64 n.f0.f3, .bool n.f0.f4, .int .i64 n.f1, .int .i64 n.f2] 39)).cell? ⟨w.heap.size + 1 + 1, 0, none⟩ = some (.slice Ak1 k.f0.length ck1) := (blk_cell (blk_alloc XK.out _) 0).trans rfl
  have x_K1 : (w2.alloc (.cells #[.int .i64 n.f0.f0, .int .i64 n.f0.f1, .int .i64 n.f0.f2, .int .i64 n.f0.f3, .bool n.f0.f4, .int .i64 n.f1, .int .i64 n.f2] 39)).cell? ⟨w.heap.size + 1 + 1, 1, none⟩ = some (.slice Ak2 k.f1.length ck2) := (blk_cell (blk_alloc XK.out _) 1).trans rfl
  have x_K2 : (w2.alloc (.cells #[.int .i64 n.f0.f0, .int .i64 n.f0.f1, .int .i64 n.f0.f2, .int .i64 n.f0.f3, .bool n.f0.f4, .int .i64 n.f1, .int .i64 n.f2] 39)).cell? ⟨w.heap.size + 1 + 1, 2, none⟩ = some (.slice Ak3 k.f2.length ck3) := (blk_cell (blk_alloc XK.out _) 2).trans rfl
  have x_K3 : (w2.alloc (.cells #[.int .i64 n.f0.f0, .int .i64 n.f0.f1, .int .i64 n.f0.f2, .int .i64 n.f0.f3, .bool n.f0.f4, .int .i64 n.f1, .int .i64 n.f2] 39)).cell? ⟨w.heap.size + 1 + 1, 3, none⟩ = some (.int .i64 k.f3) := (blk_cell (blk_alloc XK.out _) 3).trans rfl
  obtain ⟨B, hB⟩ : ∃ B, B = w2.heap.size := ⟨_, rfl⟩
  go_wp2_with fail
  try simp only [← hB]
  refine (great_c (some ⟨B, 0, none⟩) 1 [n] k Ak1 Ak2 Ak3 ck1 ck2 ck3 _).mono ?_
  rintro e w3 ⟨rfl, hb⟩
  have XL : Sl k39 w3 (.slice (some ⟨B, 0, none⟩) 1 1) [n] := Sl_below (Sl_blk (xs := [n]) (by rw [hB]; exact blk_new _ _) (Reps.cons (k39_mk _ n) rfl (Reps.none _ _)) (by simp)) hb
  replace hb := below_step (below_alloc (Below.refl _ _) _) hb
  clear x_XN0 x_XN1 x_XN2 x_XN3 x_XN4 x_XN5 x_XN6 x_K0 x_K1 x_K2 x_K3
  replace XN := Aside0.mk (blk_below hb XN.out)
  replace XS := Aside0.mk (blk_below hb XS.out)
  replace XK := Aside0.mk (blk_below hb XK.out)
  replace HB := Aside0.mk (below_step HB.out hb)
  clear hb hB
  replace XL := Aside0.mk XL
  obtain ⟨g, hg⟩ : ∃ z, greatB [n] k = z := ⟨_, rfl⟩
  rw [hg]
  cases g
  rotate_left
  · go_wp2
    go_ret
    exact ⟨rfl, HB.out⟩
  simp [greatB] at hg
  obtain ⟨hk1, hk2, hk3⟩ := hg
  go_wp2
  refine start_ (n := 17) (S := fun w' => True) (ds := []) #[false, false, false, false, false, false, false, false, false, false, false, false, false, false, false, false, false] (by kernel_rfl) rfl rfl trivial (fun hHeld => ?_)
  refine with_tabW guards.tab6 guards.bits6 (fun HT_ HW_ => ?_)
  have HBr := Aside0.mk (below_drew1 (Below.refl w3.heap.size w3))
  refine inv_at [0, 1, 2, 3, 4, 5, 6, 7, 8, 9, 10, 11, 12, 13, 14, 15, 16] (fun a0_ b a w' => ∃ (v26_ : Value) (v29_ : Value) (g34_ : Nat) (v35_ : Value) (a36_ : Value) (b36_ : Value) (m9_ : Value) (m11_ : Value) (m12_ : Value) (m13_ : Value) (m14_ : Value) (m15_ : Value) (m16_ : Value), a = putSel a0_ b [(0, 25, .slice (some ⟨B, 0, none⟩) 1 1), (1, 26, v26_), (2, 27, .pointer (some ⟨w.heap.size + 1 + 1, 0, none⟩)), (3, 28, .slice Ak1 k.f0.length ck1), (4, 29, v29_), (5, 30, .pointer (some ⟨w.heap.size, 0, none⟩)), (6, 31, .pointer (some ⟨w.heap.size, 0, none⟩)), (7, 32, .int .i64 n.f0.f0), (8, 33, .agg #[.int .i64 n.f0.f0, .int .i64 7, .int .i64 3, .int .i64 0, .bool false]), (9, 34, m9_), (10, 35, v35_), (11, 36, m11_), (12, 24, m12_), (13, 37, m13_), (14, 38, m14_), (15, 10, m15_), (16, 11, m16_)] ∧ (Below w3.heap.size w3 w') ∧ (b 1 = true → b 4 = false → Kd.R k37 37 w' w3.heap.size (fun _ => True) v26_ []) ∧ (b 4 = true → b 10 = false → Kd.R k37 37 w' w3.heap.size (fun _ => True) v29_ (k.f0)) ∧ (b 9 = true → w'.heap[g34_]? = some (.cells #[.int .i64 n.f0.f0, .int .i64 7, .int .i64 3, .int .i64 0, .bool false] 37 (0, 0))) ∧ (b 10 = true → Kd.R k37 37 w' w3.heap.size (fun _ => True) v35_ (k.f0 ++ [⟨n.f0.f0, 7, 3, 0, false⟩])) ∧ (b 11 = true → Sl k39 w' a36_ ([n].filter fun x => !slB (k.f0 ++ [⟨n.f0.f0, 7, 3, 0, false⟩]) x)) ∧ (b 4 = true → b 9 = true → b 10 = false → some g34_ ≠ v29_.ownBlock) ∧ (b 1 = true → b 9 = true → b 4 = false → some g34_ ≠ v26_.ownBlock) ∧ (b 9 = true → (m9_ : Value) = .slice (some ⟨g34_, 0, none⟩) 1 1) ∧ (b 11 = true → (m11_ : Value) = .tuple #[a36_, b36_]) ∧ (b 12 = true → (m12_ : Value) = .tuple #[a36_, b36_]) ∧ (b 13 = true → (m13_ : Value) = a36_) ∧ (b 14 = true → (m14_ : Value) = b36_) ∧ (b 15 = true → (m15_ : Value) = a36_) ∧ (b 16 = true → (m16_ : Value) = b36_)) HT_.out HW_.out (by kernel_rfl) (by kernel_rfl) ?_ ?_ ?_
  · exact ⟨.bool false, .bool false, 0, .bool false, .bool false, .bool false, .bool false, .bool false, .bool false, .bool false, .bool false, .bool false, .bool false, by simp only [putSel, Bool.false_eq_true, if_false], HBr.out, fun h_ => absurd h_ (by decide), fun h_ => absurd h_ (by decide), fun h_ => absurd h_ (by decide), fun h_ => absurd h_ (by decide), fun h_ => absurd h_ (by decide), fun h_ => absurd h_ (by decide), fun h_ => absurd h_ (by decide), fun h_ => absurd h_ (by decide), fun h_ => absurd h_ (by decide), fun h_ => absurd h_ (by decide), fun h_ => absurd h_ (by decide), fun h_ => absurd h_ (by decide), fun h_ => absurd h_ (by decide), fun h_ => absurd h_ (by decide)⟩
  · skip
    clear HBr
    refine steps_cons ?_ ?_
    · rintro b a w' ⟨v26_, v29_, g34_, v35_, a36_, b36_, m9_, m11_, m12_, m13_, m14_, m15_, m16_, ha, Q_HBr, Q_RO26, Q_RO29, Q_BL34, Q_RO35, Q_RA36, Q_NE29_34, Q_NE26_34, Q_X9_, Q_X11_, Q_X12_, Q_X13_, Q_X14_, Q_X15_, Q_X16_⟩ hb_ hon hoff
      refine ⟨_, rfl, fun K hK => ?_⟩
      have e9 : a.tmps[9]? = some (.slice (some ⟨B, 0, none⟩) 1 1) := by rw [ha]; exact (putSel_off rfl).trans rfl
      replace ha := Aside0.mk ha
      have HBr := Aside0.mk Q_HBr
      refine value_ (w1 := w') (v := .slice (some ⟨B, 0, none⟩) 1 1) (by rfl) rfl ?_ ?_
      · go_simp
        (try simp only [i64_w])
        try rfl
      refine hK.out _ _ ⟨v26_, v29_, g34_, v35_, a36_, b36_, m9_, m11_, m12_, m13_, m14_, m15_, m16_, (by rw [ha.out]; exact putSel_upk 0 hb_ rfl rfl rfl), Q_HBr, Q_RO26, Q_RO29, Q_BL34, Q_RO35, fun h0_ => absurd ((hoff 11 (by kernel_rfl)).symm.trans h0_) (by decide), Q_NE29_34, Q_NE26_34, Q_X9_, fun h0_ => absurd ((hoff 11 (by kernel_rfl)).symm.trans h0_) (by decide), fun h0_ => absurd ((hoff 12 (by kernel_rfl)).symm.trans h0_) (by decide), fun h0_ => absurd ((hoff 13 (by kernel_rfl)).symm.trans h0_) (by decide), fun h0_ => absurd ((hoff 14 (by kernel_rfl)).symm.trans h0_) (by decide), fun h0_ => absurd ((hoff 15 (by kernel_rfl)).symm.trans h0_) (by decide), fun h0_ => absurd ((hoff 16 (by kernel_rfl)).symm.trans h0_) (by decide)⟩
    refine steps_cons ?_ ?_
    · rintro b a w' ⟨v26_, v29_, g34_, v35_, a36_, b36_, m9_, m11_, m12_, m13_, m14_, m15_, m16_, ha, Q_HBr, Q_RO26, Q_RO29, Q_BL34, Q_RO35, Q_RA36, Q_NE29_34, Q_NE26_34, Q_X9_, Q_X11_, Q_X12_, Q_X13_, Q_X14_, Q_X15_, Q_X16_⟩ hb_ hon hoff
      refine ⟨_, rfl, fun K hK => ?_⟩
      replace ha := Aside0.mk ha
      have HBr := Aside0.mk Q_HBr
      refine event_step (w1 := w'.alloc (.cells #[] 37)) (v := .slice (some ⟨w'.heap.size, 0, none⟩) 0 0) (by rfl) ?_ ?_
      · go_simp
        try rfl
      refine hK.out _ _ ⟨.slice (some ⟨w'.heap.size, 0, none⟩) 0 0, v29_, g34_, v35_, a36_, b36_, m9_, m11_, m12_, m13_, m14_, m15_, m16_, (by rw [ha.out]; exact putSel_upk 1 hb_ rfl rfl rfl), below_step HBr.out (below_alloc (Below.refl w'.heap.size w') _), fun _ _ => R_lit_alloc k37 37 w' (below_size HBr.out) (xs := []) (inner := []) (Reps.none _ _) (by simp), fun h0_ _ => absurd ((hoff 4 (by kernel_rfl)).symm.trans h0_) (by decide), fun h0_ => blk_below (below_alloc (Below.refl w'.heap.size w') _) (Q_BL34 h0_), fun h0_ => absurd ((hoff 10 (by kernel_rfl)).symm.trans h0_) (by decide), fun h0_ => absurd ((hoff 11 (by kernel_rfl)).symm.trans h0_) (by decide), fun h0_ _ _ => absurd ((hoff 4 (by kernel_rfl)).symm.trans h0_) (by decide), fun _ h1_ _ => ne_fresh (blk_lt (Q_BL34 h1_)), Q_X9_, fun h0_ => absurd ((hoff 11 (by kernel_rfl)).symm.trans h0_) (by decide), fun h0_ => absurd ((hoff 12 (by kernel_rfl)).symm.trans h0_) (by decide), fun h0_ => absurd ((hoff 13 (by kernel_rfl)).symm.trans h0_) (by decide), fun h0_ => absurd ((hoff 14 (by kernel_rfl)).symm.trans h0_) (by decide), fun h0_ => absurd ((hoff 15 (by kernel_rfl)).symm.trans h0_) (by decide), fun h0_ => absurd ((hoff 16 (by kernel_rfl)).symm.trans h0_) (by decide)⟩
    refine steps_cons ?_ ?_
    · rintro b a w' ⟨v26_, v29_, g34_, v35_, a36_, b36_, m9_, m11_, m12_, m13_, m14_, m15_, m16_, ha, Q_HBr, Q_RO26, Q_RO29, Q_BL34, Q_RO35, Q_RA36, Q_NE29_34, Q_NE26_34, Q_X9_, Q_X11_, Q_X12_, Q_X13_, Q_X14_, Q_X15_, Q_X16_⟩ hb_ hon hoff
      refine ⟨_, rfl, fun K hK => ?_⟩
      have e7 : a.tmps[7]? = some (.pointer (some ⟨w.heap.size + 1 + 1, 0, none⟩)) := by rw [ha]; exact (putSel_off rfl).trans rfl
      replace ha := Aside0.mk ha
      have HBr := Aside0.mk Q_HBr
      refine value_ (w1 := w') (v := .pointer (some ⟨w.heap.size + 1 + 1, 0, none⟩)) (by rfl) rfl ?_ ?_
      · go_simp
        (try simp only [i64_w])
        try rfl
      refine hK.out _ _ ⟨v26_, v29_, g34_, v35_, a36_, b36_, m9_, m11_, m12_, m13_, m14_, m15_, m16_, (by rw [ha.out]; exact putSel_upk 2 hb_ rfl rfl rfl), Q_HBr, Q_RO26, fun h0_ _ => absurd ((hoff 4 (by kernel_rfl)).symm.trans h0_) (by decide), Q_BL34, fun h0_ => absurd ((hoff 10 (by kernel_rfl)).symm.trans h0_) (by decide), fun h0_ => absurd ((hoff 11 (by kernel_rfl)).symm.trans h0_) (by decide), fun h0_ _ _ => absurd ((hoff 4 (by kernel_rfl)).symm.trans h0_) (by decide), Q_NE26_34, Q_X9_, fun h0_ => absurd ((hoff 11 (by kernel_rfl)).symm.trans h0_) (by decide), fun h0_ => absurd ((hoff 12 (by kernel_rfl)).symm.trans h0_) (by decide), fun h0_ => absurd ((hoff 13 (by kernel_rfl)).symm.trans h0_) (by decide), fun h0_ => absurd ((hoff 14 (by kernel_rfl)).symm.trans h0_) (by decide), fun h0_ => absurd ((hoff 15 (by kernel_rfl)).symm.trans h0_) (by decide), fun h0_ => absurd ((hoff 16 (by kernel_rfl)).symm.trans h0_) (by decide)⟩
    refine steps_cons ?_ ?_
    · rintro b a w' ⟨v26_, v29_, g34_, v35_, a36_, b36_, m9_, m11_, m12_, m13_, m14_, m15_, m16_, ha, Q_HBr, Q_RO26, Q_RO29, Q_BL34, Q_RO35, Q_RA36, Q_NE29_34, Q_NE26_34, Q_X9_, Q_X11_, Q_X12_, Q_X13_, Q_X14_, Q_X15_, Q_X16_⟩ hb_ hon hoff
      refine ⟨_, rfl, fun K hK => ?_⟩
      have e27 : a.tmps[27]? = some (.pointer (some ⟨w.heap.size + 1 + 1, 0, none⟩)) := by rw [ha]; exact putSel_on (e := (2, 27, .pointer (some ⟨w.heap.size + 1 + 1, 0, none⟩))) 2 rfl rfl (hon 2 (by kernel_rfl)) rfl
      replace ha := Aside0.mk ha
      have HBr := Aside0.mk Q_HBr
      have z0_ : w'.cell? ⟨w.heap.size + 1 + 1, 0, none⟩ = some (.slice Ak1 k.f0.length ck1) := (blk_cell (blk_below HBr.out XK.out) 0).trans rfl
      refine value_ (w1 := w') (v := .slice Ak1 k.f0.length ck1) (by rfl) rfl ?_ ?_
      · go_simp
        (try simp only [i64_w])
        try rfl
      refine hK.out _ _ ⟨v26_, v29_, g34_, v35_, a36_, b36_, m9_, m11_, m12_, m13_, m14_, m15_, m16_, (by rw [ha.out]; exact putSel_upk 3 hb_ rfl rfl rfl), Q_HBr, Q_RO26, fun h0_ _ => absurd ((hoff 4 (by kernel_rfl)).symm.trans h0_) (by decide), Q_BL34, fun h0_ => absurd ((hoff 10 (by kernel_rfl)).symm.trans h0_) (by decide), fun h0_ => absurd ((hoff 11 (by kernel_rfl)).symm.trans h0_) (by decide), fun h0_ _ _ => absurd ((hoff 4 (by kernel_rfl)).symm.trans h0_) (by decide), Q_NE26_34, Q_X9_, fun h0_ => absurd ((hoff 11 (by kernel_rfl)).symm.trans h0_) (by decide), fun h0_ => absurd ((hoff 12 (by kernel_rfl)).symm.trans h0_) (by decide), fun h0_ => absurd ((hoff 13 (by kernel_rfl)).symm.trans h0_) (by decide), fun h0_ => absurd ((hoff 14 (by kernel_rfl)).symm.trans h0_) (by decide), fun h0_ => absurd ((hoff 15 (by kernel_rfl)).symm.trans h0_) (by decide), fun h0_ => absurd ((hoff 16 (by kernel_rfl)).symm.trans h0_) (by decide)⟩
    refine steps_cons ?_ ?_
    · rintro b a w' ⟨v26_, v29_, g34_, v35_, a36_, b36_, m9_, m11_, m12_, m13_, m14_, m15_, m16_, ha, Q_HBr, Q_RO26, Q_RO29, Q_BL34, Q_RO35, Q_RA36, Q_NE29_34, Q_NE26_34, Q_X9_, Q_X11_, Q_X12_, Q_X13_, Q_X14_, Q_X15_, Q_X16_⟩ hb_ hon hoff
      refine ⟨_, rfl, fun K hK => ?_⟩
      have e26 : a.tmps[26]? = some (v26_) := by rw [ha]; exact putSel_on (e := (1, 26, v26_)) 1 rfl rfl (hon 1 (by kernel_rfl)) rfl
      have e28 : a.tmps[28]? = some (.slice Ak1 k.f0.length ck1) := by rw [ha]; exact putSel_on (e := (3, 28, .slice Ak1 k.f0.length ck1)) 3 rfl rfl (hon 3 (by kernel_rfl)) rfl
      replace ha := Aside0.mk ha
      have HBr := Aside0.mk Q_HBr
      have RO26 := Aside0.mk (Q_RO26 (hon 1 (by kernel_rfl)) hb_)
      refine Kd.R_append_rows_step k37 (w0 := w3) w3.heap.size (by rfl) (.tmp 26) (.tmp 28) 23 37 _ _ rfl Try.underlying23 info37 rfl (by decide) (by decide) v26_ ([] : List S37) (k.f0) _ _ _ (fun _ => True) (fun _ => False) (by first | (go_simp; done) | (go_simp; rfl)) (by first | (go_simp; done) | (go_simp; rfl)) RO26.out (Kd.C_below K1.out (below_step HB.out HBr.out)) (fun _ _ h => h) (fun _ h => h.elim) (fun _ _ => trivial) HBr.out (below_size HBr.out) (by first | omega | (simp; done) | (simp; omega)) ?_
      intro va_ w1 hR_ hB_ hg_ hat_
      refine hK.out _ _ ⟨v26_, va_, g34_, v35_, a36_, b36_, m9_, m11_, m12_, m13_, m14_, m15_, m16_, (by rw [ha.out]; exact putSel_upk 4 hb_ rfl rfl rfl), hB_, fun _ h1_ => absurd ((up_self b 4).symm.trans h1_) (by decide), fun _ _ => hR_, fun h_ => (hg_.block _ (blk_lt (Q_BL34 h_)) (Q_NE26_34 (hon 1 (by kernel_rfl)) h_ hb_)).trans (Q_BL34 h_), fun h0_ => absurd ((hoff 10 (by kernel_rfl)).symm.trans h0_) (by decide), fun h0_ => absurd ((hoff 11 (by kernel_rfl)).symm.trans h0_) (by decide), fun _ h1_ _ => ne_app hat_ (Q_NE26_34 (hon 1 (by kernel_rfl)) h1_ hb_) (blk_lt (Q_BL34 h1_)), fun _ _ h2_ => absurd ((up_self b 4).symm.trans h2_) (by decide), Q_X9_, fun h0_ => absurd ((hoff 11 (by kernel_rfl)).symm.trans h0_) (by decide), fun h0_ => absurd ((hoff 12 (by kernel_rfl)).symm.trans h0_) (by decide), fun h0_ => absurd ((hoff 13 (by kernel_rfl)).symm.trans h0_) (by decide), fun h0_ => absurd ((hoff 14 (by kernel_rfl)).symm.trans h0_) (by decide), fun h0_ => absurd ((hoff 15 (by kernel_rfl)).symm.trans h0_) (by decide), fun h0_ => absurd ((hoff 16 (by kernel_rfl)).symm.trans h0_) (by decide)⟩
    refine steps_cons ?_ ?_
    · rintro b a w' ⟨v26_, v29_, g34_, v35_, a36_, b36_, m9_, m11_, m12_, m13_, m14_, m15_, m16_, ha, Q_HBr, Q_RO26, Q_RO29, Q_BL34, Q_RO35, Q_RA36, Q_NE29_34, Q_NE26_34, Q_X9_, Q_X11_, Q_X12_, Q_X13_, Q_X14_, Q_X15_, Q_X16_⟩ hb_ hon hoff
      refine ⟨_, rfl, fun K hK => ?_⟩
      have e4 : a.tmps[4]? = some (.pointer (some ⟨w.heap.size, 0, none⟩)) := by rw [ha]; exact (putSel_off rfl).trans rfl
      replace ha := Aside0.mk ha
      have HBr := Aside0.mk Q_HBr
      refine value_ (w1 := w') (v := .pointer (some ⟨w.heap.size, 0, none⟩)) (by rfl) rfl ?_ ?_
      · go_simp
        (try simp only [i64_w])
        try rfl
      refine hK.out _ _ ⟨v26_, v29_, g34_, v35_, a36_, b36_, m9_, m11_, m12_, m13_, m14_, m15_, m16_, (by rw [ha.out]; exact putSel_upk 5 hb_ rfl rfl rfl), Q_HBr, Q_RO26, Q_RO29, fun h0_ => absurd ((hoff 9 (by kernel_rfl)).symm.trans h0_) (by decide), fun h0_ => absurd ((hoff 10 (by kernel_rfl)).symm.trans h0_) (by decide), fun h0_ => absurd ((hoff 11 (by kernel_rfl)).symm.trans h0_) (by decide), fun _ h1_ _ => absurd ((hoff 9 (by kernel_rfl)).symm.trans h1_) (by decide), fun _ h1_ _ => absurd ((hoff 9 (by kernel_rfl)).symm.trans h1_) (by decide), fun h0_ => absurd ((hoff 9 (by kernel_rfl)).symm.trans h0_) (by decide), fun h0_ => absurd ((hoff 11 (by kernel_rfl)).symm.trans h0_) (by decide), fun h0_ => absurd ((hoff 12 (by kernel_rfl)).symm.trans h0_) (by decide), fun h0_ => absurd ((hoff 13 (by kernel_rfl)).symm.trans h0_) (by decide), fun h0_ => absurd ((hoff 14 (by kernel_rfl)).symm.trans h0_) (by decide), fun h0_ => absurd ((hoff 15 (by kernel_rfl)).symm.trans h0_) (by decide), fun h0_ => absurd ((hoff 16 (by kernel_rfl)).symm.trans h0_) (by decide)⟩
    refine steps_cons ?_ ?_
    · rintro b a w' ⟨v26_, v29_, g34_, v35_, a36_, b36_, m9_, m11_, m12_, m13_, m14_, m15_, m16_, ha, Q_HBr, Q_RO26, Q_RO29, Q_BL34, Q_RO35, Q_RA36, Q_NE29_34, Q_NE26_34, Q_X9_, Q_X11_, Q_X12_, Q_X13_, Q_X14_, Q_X15_, Q_X16_⟩ hb_ hon hoff
      refine ⟨_, rfl, fun K hK => ?_⟩
      have e30 : a.tmps[30]? = some (.pointer (some ⟨w.heap.size, 0, none⟩)) := by rw [ha]; exact putSel_on (e := (5, 30, .pointer (some ⟨w.heap.size, 0, none⟩))) 5 rfl rfl (hon 5 (by kernel_rfl)) rfl
      replace ha := Aside0.mk ha
      have HBr := Aside0.mk Q_HBr
      refine value_ (w1 := w') (v := .pointer (some ⟨w.heap.size, 0, none⟩)) (by rfl) rfl ?_ ?_
      · go_simp
        (try simp only [i64_w])
        try rfl
      refine hK.out _ _ ⟨v26_, v29_, g34_, v35_, a36_, b36_, m9_, m11_, m12_, m13_, m14_, m15_, m16_, (by rw [ha.out]; exact putSel_upk 6 hb_ rfl rfl rfl), Q_HBr, Q_RO26, Q_RO29, fun h0_ => absurd ((hoff 9 (by kernel_rfl)).symm.trans h0_) (by decide), fun h0_ => absurd ((hoff 10 (by kernel_rfl)).symm.trans h0_) (by decide), fun h0_ => absurd ((hoff 11 (by kernel_rfl)).symm.trans h0_) (by decide), fun _ h1_ _ => absurd ((hoff 9 (by kernel_rfl)).symm.trans h1_) (by decide), fun _ h1_ _ => absurd ((hoff 9 (by kernel_rfl)).symm.trans h1_) (by decide), fun h0_ => absurd ((hoff 9 (by kernel_rfl)).symm.trans h0_) (by decide), fun h0_ => absurd ((hoff 11 (by kernel_rfl)).symm.trans h0_) (by decide), fun h0_ => absurd ((hoff 12 (by kernel_rfl)).symm.trans h0_) (by decide), fun h0_ => absurd ((hoff 13 (by kernel_rfl)).symm.trans h0_) (by decide), fun h0_ => absurd ((hoff 14 (by kernel_rfl)).symm.trans h0_) (by decide), fun h0_ => absurd ((hoff 15 (by kernel_rfl)).symm.trans h0_) (by decide), fun h0_ => absurd ((hoff 16 (by kernel_rfl)).symm.trans h0_) (by decide)⟩
    refine steps_cons ?_ ?_
    · rintro b a w' ⟨v26_, v29_, g34_, v35_, a36_, b36_, m9_, m11_, m12_, m13_, m14_, m15_, m16_, ha, Q_HBr, Q_RO26, Q_RO29, Q_BL34, Q_RO35, Q_RA36, Q_NE29_34, Q_NE26_34, Q_X9_, Q_X11_, Q_X12_, Q_X13_, Q_X14_, Q_X15_, Q_X16_⟩ hb_ hon hoff
      refine ⟨_, rfl, fun K hK => ?_⟩
      have e31 : a.tmps[31]? = some (.pointer (some ⟨w.heap.size, 0, none⟩)) := by rw [ha]; exact putSel_on (e := (6, 31, .pointer (some ⟨w.heap.size, 0, none⟩))) 6 rfl rfl (hon 6 (by kernel_rfl)) rfl
      replace ha := Aside0.mk ha
      have HBr := Aside0.mk Q_HBr
      have z0_ : w'.cell? ⟨w.heap.size, 0, none⟩ = some (.int .i64 n.f0.f0) := (blk_cell (blk_below HBr.out XN.out) 0).trans rfl
      refine value_ (w1 := w') (v := .int .i64 n.f0.f0) (by rfl) rfl ?_ ?_
      · go_simp
        (try simp only [i64_w])
        try rfl
      refine hK.out _ _ ⟨v26_, v29_, g34_, v35_, a36_, b36_, m9_, m11_, m12_, m13_, m14_, m15_, m16_, (by rw [ha.out]; exact putSel_upk 7 hb_ rfl rfl rfl), Q_HBr, Q_RO26, Q_RO29, fun h0_ => absurd ((hoff 9 (by kernel_rfl)).symm.trans h0_) (by decide), fun h0_ => absurd ((hoff 10 (by kernel_rfl)).symm.trans h0_) (by decide), fun h0_ => absurd ((hoff 11 (by kernel_rfl)).symm.trans h0_) (by decide), fun _ h1_ _ => absurd ((hoff 9 (by kernel_rfl)).symm.trans h1_) (by decide), fun _ h1_ _ => absurd ((hoff 9 (by kernel_rfl)).symm.trans h1_) (by decide), fun h0_ => absurd ((hoff 9 (by kernel_rfl)).symm.trans h0_) (by decide), fun h0_ => absurd ((hoff 11 (by kernel_rfl)).symm.trans h0_) (by decide), fun h0_ => absurd ((hoff 12 (by kernel_rfl)).symm.trans h0_) (by decide), fun h0_ => absurd ((hoff 13 (by kernel_rfl)).symm.trans h0_) (by decide), fun h0_ => absurd ((hoff 14 (by kernel_rfl)).symm.trans h0_) (by decide), fun h0_ => absurd ((hoff 15 (by kernel_rfl)).symm.trans h0_) (by decide), fun h0_ => absurd ((hoff 16 (by kernel_rfl)).symm.trans h0_) (by decide)⟩
    refine steps_cons ?_ ?_
    · rintro b a w' ⟨v26_, v29_, g34_, v35_, a36_, b36_, m9_, m11_, m12_, m13_, m14_, m15_, m16_, ha, Q_HBr, Q_RO26, Q_RO29, Q_BL34, Q_RO35, Q_RA36, Q_NE29_34, Q_NE26_34, Q_X9_, Q_X11_, Q_X12_, Q_X13_, Q_X14_, Q_X15_, Q_X16_⟩ hb_ hon hoff
      refine ⟨_, rfl, fun K hK => ?_⟩
      have e32 : a.tmps[32]? = some (.int .i64 n.f0.f0) := by rw [ha]; exact putSel_on (e := (7, 32, .int .i64 n.f0.f0)) 7 rfl rfl (hon 7 (by kernel_rfl)) rfl
      replace ha := Aside0.mk ha
      have HBr := Aside0.mk Q_HBr
      refine value_ (w1 := w') (v := .agg #[.int .i64 n.f0.f0, .int .i64 7, .int .i64 3, .int .i64 0, .bool false]) (by rfl) rfl ?_ ?_
      · go_simp
        (try simp only [i64_w])
        try rfl
      refine hK.out _ _ ⟨v26_, v29_, g34_, v35_, a36_, b36_, m9_, m11_, m12_, m13_, m14_, m15_, m16_, (by rw [ha.out]; exact putSel_upk 8 hb_ rfl rfl rfl), Q_HBr, Q_RO26, Q_RO29, fun h0_ => absurd ((hoff 9 (by kernel_rfl)).symm.trans h0_) (by decide), fun h0_ => absurd ((hoff 10 (by kernel_rfl)).symm.trans h0_) (by decide), fun h0_ => absurd ((hoff 11 (by kernel_rfl)).symm.trans h0_) (by decide), fun _ h1_ _ => absurd ((hoff 9 (by kernel_rfl)).symm.trans h1_) (by decide), fun _ h1_ _ => absurd ((hoff 9 (by kernel_rfl)).symm.trans h1_) (by decide), fun h0_ => absurd ((hoff 9 (by kernel_rfl)).symm.trans h0_) (by decide), fun h0_ => absurd ((hoff 11 (by kernel_rfl)).symm.trans h0_) (by decide), fun h0_ => absurd ((hoff 12 (by kernel_rfl)).symm.trans h0_) (by decide), fun h0_ => absurd ((hoff 13 (by kernel_rfl)).symm.trans h0_) (by decide), fun h0_ => absurd ((hoff 14 (by kernel_rfl)).symm.trans h0_) (by decide), fun h0_ => absurd ((hoff 15 (by kernel_rfl)).symm.trans h0_) (by decide), fun h0_ => absurd ((hoff 16 (by kernel_rfl)).symm.trans h0_) (by decide)⟩
    refine steps_cons ?_ ?_
    · rintro b a w' ⟨v26_, v29_, g34_, v35_, a36_, b36_, m9_, m11_, m12_, m13_, m14_, m15_, m16_, ha, Q_HBr, Q_RO26, Q_RO29, Q_BL34, Q_RO35, Q_RA36, Q_NE29_34, Q_NE26_34, Q_X9_, Q_X11_, Q_X12_, Q_X13_, Q_X14_, Q_X15_, Q_X16_⟩ hb_ hon hoff
      refine ⟨_, rfl, fun K hK => ?_⟩
      have e33 : a.tmps[33]? = some (.agg #[.int .i64 n.f0.f0, .int .i64 7, .int .i64 3, .int .i64 0, .bool false]) := by rw [ha]; exact putSel_on (e := (8, 33, .agg #[.int .i64 n.f0.f0, .int .i64 7, .int .i64 3, .int .i64 0, .bool false])) 8 rfl rfl (hon 8 (by kernel_rfl)) rfl
      replace ha := Aside0.mk ha
      have HBr := Aside0.mk Q_HBr
      refine event_step (w1 := w'.alloc (.cells #[.int .i64 n.f0.f0, .int .i64 7, .int .i64 3, .int .i64 0, .bool false] 37)) (v := .slice (some ⟨w'.heap.size, 0, none⟩) 1 1) (by rfl) ?_ ?_
      · go_simp
        try rfl
      refine hK.out _ _ ⟨v26_, v29_, w'.heap.size, v35_, a36_, b36_, (.slice (some ⟨w'.heap.size, 0, none⟩) 1 1), m11_, m12_, m13_, m14_, m15_, m16_, (by rw [ha.out]; exact putSel_upk 9 hb_ rfl rfl rfl), below_step HBr.out (below_alloc (Below.refl w'.heap.size w') _), fun h0_ h1_ => Kd.R_below (Q_RO26 h0_ h1_) (below_alloc (Below.refl w'.heap.size w') _), fun h0_ h1_ => Kd.R_below (Q_RO29 h0_ h1_) (below_alloc (Below.refl w'.heap.size w') _), fun _ => blk_new w' _, fun h0_ => absurd ((hoff 10 (by kernel_rfl)).symm.trans h0_) (by decide), fun h0_ => absurd ((hoff 11 (by kernel_rfl)).symm.trans h0_) (by decide), fun h0_ _ h2_ => Kd.fresh_ok (Q_RO29 h0_ h2_) _ (Nat.le_refl _), fun h0_ _ h2_ => Kd.fresh_ok (Q_RO26 h0_ h2_) _ (Nat.le_refl _), fun _ => rfl, fun h0_ => absurd ((hoff 11 (by kernel_rfl)).symm.trans h0_) (by decide), fun h0_ => absurd ((hoff 12 (by kernel_rfl)).symm.trans h0_) (by decide), fun h0_ => absurd ((hoff 13 (by kernel_rfl)).symm.trans h0_) (by decide), fun h0_ => absurd ((hoff 14 (by kernel_rfl)).symm.trans h0_) (by decide), fun h0_ => absurd ((hoff 15 (by kernel_rfl)).symm.trans h0_) (by decide), fun h0_ => absurd ((hoff 16 (by kernel_rfl)).symm.trans h0_) (by decide)⟩
    refine steps_cons ?_ ?_
    · rintro b a w' ⟨v26_, v29_, g34_, v35_, a36_, b36_, m9_, m11_, m12_, m13_, m14_, m15_, m16_, ha, Q_HBr, Q_RO26, Q_RO29, Q_BL34, Q_RO35, Q_RA36, Q_NE29_34, Q_NE26_34, Q_X9_, Q_X11_, Q_X12_, Q_X13_, Q_X14_, Q_X15_, Q_X16_⟩ hb_ hon hoff
      refine ⟨_, rfl, fun K hK => ?_⟩
      have e29 : a.tmps[29]? = some (v29_) := by rw [ha]; exact putSel_on (e := (4, 29, v29_)) 4 rfl rfl (hon 4 (by kernel_rfl)) rfl
      have e34 : a.tmps[34]? = some (m9_) := by rw [ha]; exact putSel_on (e := (9, 34, m9_)) 9 rfl rfl (hon 9 (by kernel_rfl)) rfl
      rw [Q_X9_ (hon 9 (by kernel_rfl))] at e34
      replace ha := Aside0.mk ha
      have HBr := Aside0.mk Q_HBr
      have RO29 := Aside0.mk (Q_RO29 (hon 4 (by kernel_rfl)) hb_)
      have BL34 := Aside0.mk (Q_BL34 (hon 9 (by kernel_rfl)))
      have NE29_34 := Aside0.mk (Q_NE29_34 (hon 4 (by kernel_rfl)) (hon 9 (by kernel_rfl)) hb_)
      refine Kd.R_append_rows_step k37 (w0 := w3) w3.heap.size (by rfl) (.tmp 29) (.tmp 34) 23 37 _ _ rfl Try.underlying23 info37 rfl (by decide) (by decide) v29_ (k.f0) ([⟨n.f0.f0, 7, 3, 0, false⟩]) _ _ _ (fun _ => True) (fun _ => False) (by first | (go_simp; done) | (go_simp; rfl)) (by first | (go_simp; done) | (go_simp; rfl)) RO29.out (C_of_block (BL34.out) (Reps.cons (k37_mk _ ⟨n.f0.f0, 7, 3, 0, false⟩) rfl (Reps.none _ _)) (by simp)) (fun _ _ h => h) (fun _ h => h.elim) (fun _ _ => trivial) HBr.out (below_size HBr.out) (by first | omega | (simp; done) | (simp; omega)) ?_
      intro va_ w1 hR_ hB_ hg_ hat_
      refine hK.out _ _ ⟨v26_, v29_, g34_, va_, a36_, b36_, m9_, m11_, m12_, m13_, m14_, m15_, m16_, (by rw [ha.out]; exact putSel_upk 10 hb_ rfl rfl rfl), hB_, fun _ h1_ => absurd ((hon 4 (by kernel_rfl)).symm.trans h1_) (by decide), fun _ h1_ => absurd ((up_self b 10).symm.trans h1_) (by decide), fun h_ => (hg_.block _ (blk_lt (Q_BL34 h_)) (Q_NE29_34 (hon 4 (by kernel_rfl)) h_ hb_)).trans (Q_BL34 h_), fun _ => hR_, fun h0_ => absurd ((hoff 11 (by kernel_rfl)).symm.trans h0_) (by decide), fun _ _ h2_ => absurd ((up_self b 10).symm.trans h2_) (by decide), fun _ _ h2_ => absurd ((hon 4 (by kernel_rfl)).symm.trans h2_) (by decide), Q_X9_, fun h0_ => absurd ((hoff 11 (by kernel_rfl)).symm.trans h0_) (by decide), fun h0_ => absurd ((hoff 12 (by kernel_rfl)).symm.trans h0_) (by decide), fun h0_ => absurd ((hoff 13 (by kernel_rfl)).symm.trans h0_) (by decide), fun h0_ => absurd ((hoff 14 (by kernel_rfl)).symm.trans h0_) (by decide), fun h0_ => absurd ((hoff 15 (by kernel_rfl)).symm.trans h0_) (by decide), fun h0_ => absurd ((hoff 16 (by kernel_rfl)).symm.trans h0_) (by decide)⟩
    refine steps_cons ?_ ?_
    · rintro b a w' ⟨v26_, v29_, g34_, v35_, a36_, b36_, m9_, m11_, m12_, m13_, m14_, m15_, m16_, ha, Q_HBr, Q_RO26, Q_RO29, Q_BL34, Q_RO35, Q_RA36, Q_NE29_34, Q_NE26_34, Q_X9_, Q_X11_, Q_X12_, Q_X13_, Q_X14_, Q_X15_, Q_X16_⟩ hb_ hon hoff
      refine ⟨_, rfl, fun K hK => ?_⟩
      have e25 : a.tmps[25]? = some (.slice (some ⟨B, 0, none⟩) 1 1) := by rw [ha]; exact putSel_on (e := (0, 25, .slice (some ⟨B, 0, none⟩) 1 1)) 0 rfl rfl (hon 0 (by kernel_rfl)) rfl
      have e35 : a.tmps[35]? = some (v35_) := by rw [ha]; exact putSel_on (e := (10, 35, v35_)) 10 rfl rfl (hon 10 (by kernel_rfl)) rfl
      replace ha := Aside0.mk ha
      have HBr := Aside0.mk Q_HBr
      have BL34 := Aside0.mk (Q_BL34 (hon 9 (by kernel_rfl)))
      have RO35 := Aside0.mk (Q_RO35 (hon 10 (by kernel_rfl)))
      refine goes_ Try.func11 (by kernel_rfl) rfl #[.slice (some ⟨B, 0, none⟩) 1 1, v35_] (by rfl) rfl rfl (by first | (simp only [List.map_toArray, List.map_cons, List.map_nil, Act.eval, Array.getD_eq_getD_getElem?, Option.getD_some, e25, e35]; done) | (simp only [List.map_toArray, List.map_cons, List.map_nil, Act.eval, Array.getD_eq_getD_getElem?, Option.getD_some, e25, e35]; rfl)) ?_
      refine (Slots_s (Sl_below XL.out HBr.out) (by simp) (Sl_sc (Sl_R RO35.out))).mono ?_
      rintro e w1 ⟨v1, v2, rfl, hr1, hr2, hb1⟩
      refine ⟨_, rfl, ?_⟩
      refine hK.out _ _ ⟨v26_, v29_, g34_, v35_, v1, v2, m9_, (.tuple #[v1, v2]), m12_, m13_, m14_, m15_, m16_, (by rw [ha.out]; exact putSel_upk 11 hb_ rfl rfl rfl), below_step HBr.out hb1, fun _ h1_ => absurd ((hon 4 (by kernel_rfl)).symm.trans h1_) (by decide), fun _ h1_ => absurd ((hon 10 (by kernel_rfl)).symm.trans h1_) (by decide), fun _ => blk_below hb1 BL34.out, fun _ => Kd.R_below RO35.out hb1, fun _ => hr1, fun _ _ h2_ => absurd ((hon 10 (by kernel_rfl)).symm.trans h2_) (by decide), fun _ _ h2_ => absurd ((hon 4 (by kernel_rfl)).symm.trans h2_) (by decide), Q_X9_, fun _ => rfl, fun h0_ => absurd ((hoff 12 (by kernel_rfl)).symm.trans h0_) (by decide), fun h0_ => absurd ((hoff 13 (by kernel_rfl)).symm.trans h0_) (by decide), fun h0_ => absurd ((hoff 14 (by kernel_rfl)).symm.trans h0_) (by decide), fun h0_ => absurd ((hoff 15 (by kernel_rfl)).symm.trans h0_) (by decide), fun h0_ => absurd ((hoff 16 (by kernel_rfl)).symm.trans h0_) (by decide)⟩
    refine steps_cons ?_ ?_
    · rintro b a w' ⟨v26_, v29_, g34_, v35_, a36_, b36_, m9_, m11_, m12_, m13_, m14_, m15_, m16_, ha, Q_HBr, Q_RO26, Q_RO29, Q_BL34, Q_RO35, Q_RA36, Q_NE29_34, Q_NE26_34, Q_X9_, Q_X11_, Q_X12_, Q_X13_, Q_X14_, Q_X15_, Q_X16_⟩ hb_ hon hoff
      refine ⟨_, rfl, fun K hK => ?_⟩
      have e36 : a.tmps[36]? = some (m11_) := by rw [ha]; exact putSel_on (e := (11, 36, m11_)) 11 rfl rfl (hon 11 (by kernel_rfl)) rfl
      rw [Q_X11_ (hon 11 (by kernel_rfl))] at e36
      replace ha := Aside0.mk ha
      have HBr := Aside0.mk Q_HBr
      have BL34 := Aside0.mk (Q_BL34 (hon 9 (by kernel_rfl)))
      have RO35 := Aside0.mk (Q_RO35 (hon 10 (by kernel_rfl)))
      have RA36 := Aside0.mk (Q_RA36 (hon 11 (by kernel_rfl)))
      refine value_ (w1 := w') (v := .tuple #[a36_, b36_]) (by rfl) rfl ?_ ?_
      · go_simp
        (try simp only [i64_w])
        try rfl
      refine hK.out _ _ ⟨v26_, v29_, g34_, v35_, a36_, b36_, m9_, m11_, (.tuple #[a36_, b36_]), m13_, m14_, m15_, m16_, (by rw [ha.out]; exact putSel_upk 12 hb_ rfl rfl rfl), Q_HBr, fun _ h1_ => absurd ((hon 4 (by kernel_rfl)).symm.trans h1_) (by decide), fun _ h1_ => absurd ((hon 10 (by kernel_rfl)).symm.trans h1_) (by decide), Q_BL34, Q_RO35, Q_RA36, fun _ _ h2_ => absurd ((hon 10 (by kernel_rfl)).symm.trans h2_) (by decide), fun _ _ h2_ => absurd ((hon 4 (by kernel_rfl)).symm.trans h2_) (by decide), Q_X9_, Q_X11_, fun _ => rfl, fun h0_ => absurd ((hoff 13 (by kernel_rfl)).symm.trans h0_) (by decide), fun h0_ => absurd ((hoff 14 (by kernel_rfl)).symm.trans h0_) (by decide), fun h0_ => absurd ((hoff 15 (by kernel_rfl)).symm.trans h0_) (by decide), fun h0_ => absurd ((hoff 16 (by kernel_rfl)).symm.trans h0_) (by decide)⟩
    refine steps_cons ?_ ?_
    · rintro b a w' ⟨v26_, v29_, g34_, v35_, a36_, b36_, m9_, m11_, m12_, m13_, m14_, m15_, m16_, ha, Q_HBr, Q_RO26, Q_RO29, Q_BL34, Q_RO35, Q_RA36, Q_NE29_34, Q_NE26_34, Q_X9_, Q_X11_, Q_X12_, Q_X13_, Q_X14_, Q_X15_, Q_X16_⟩ hb_ hon hoff
      refine ⟨_, rfl, fun K hK => ?_⟩
      have e24 : a.tmps[24]? = some (m12_) := by rw [ha]; exact putSel_on (e := (12, 24, m12_)) 12 rfl rfl (hon 12 (by kernel_rfl)) rfl
      rw [Q_X12_ (hon 12 (by kernel_rfl))] at e24
      replace ha := Aside0.mk ha
      have HBr := Aside0.mk Q_HBr
      have BL34 := Aside0.mk (Q_BL34 (hon 9 (by kernel_rfl)))
      have RO35 := Aside0.mk (Q_RO35 (hon 10 (by kernel_rfl)))
      have RA36 := Aside0.mk (Q_RA36 (hon 11 (by kernel_rfl)))
      refine value_ (w1 := w') (v := a36_) (by rfl) rfl ?_ ?_
      · go_simp
        (try simp only [i64_w])
        try rfl
      refine hK.out _ _ ⟨v26_, v29_, g34_, v35_, a36_, b36_, m9_, m11_, m12_, (a36_), m14_, m15_, m16_, (by rw [ha.out]; exact putSel_upk 13 hb_ rfl rfl rfl), Q_HBr, fun _ h1_ => absurd ((hon 4 (by kernel_rfl)).symm.trans h1_) (by decide), fun _ h1_ => absurd ((hon 10 (by kernel_rfl)).symm.trans h1_) (by decide), Q_BL34, Q_RO35, Q_RA36, fun _ _ h2_ => absurd ((hon 10 (by kernel_rfl)).symm.trans h2_) (by decide), fun _ _ h2_ => absurd ((hon 4 (by kernel_rfl)).symm.trans h2_) (by decide), Q_X9_, Q_X11_, Q_X12_, fun _ => rfl, Q_X14_, fun h0_ => absurd ((hoff 15 (by kernel_rfl)).symm.trans h0_) (by decide), fun h0_ => absurd ((hoff 16 (by kernel_rfl)).symm.trans h0_) (by decide)⟩
    refine steps_cons ?_ ?_
    · rintro b a w' ⟨v26_, v29_, g34_, v35_, a36_, b36_, m9_, m11_, m12_, m13_, m14_, m15_, m16_, ha, Q_HBr, Q_RO26, Q_RO29, Q_BL34, Q_RO35, Q_RA36, Q_NE29_34, Q_NE26_34, Q_X9_, Q_X11_, Q_X12_, Q_X13_, Q_X14_, Q_X15_, Q_X16_⟩ hb_ hon hoff
      refine ⟨_, rfl, fun K hK => ?_⟩
      have e24 : a.tmps[24]? = some (m12_) := by rw [ha]; exact putSel_on (e := (12, 24, m12_)) 12 rfl rfl (hon 12 (by kernel_rfl)) rfl
      rw [Q_X12_ (hon 12 (by kernel_rfl))] at e24
      replace ha := Aside0.mk ha
      have HBr := Aside0.mk Q_HBr
      have BL34 := Aside0.mk (Q_BL34 (hon 9 (by kernel_rfl)))
      have RO35 := Aside0.mk (Q_RO35 (hon 10 (by kernel_rfl)))
      have RA36 := Aside0.mk (Q_RA36 (hon 11 (by kernel_rfl)))
      refine value_ (w1 := w') (v := b36_) (by rfl) rfl ?_ ?_
      · go_simp
        (try simp only [i64_w])
        try rfl
      refine hK.out _ _ ⟨v26_, v29_, g34_, v35_, a36_, b36_, m9_, m11_, m12_, m13_, (b36_), m15_, m16_, (by rw [ha.out]; exact putSel_upk 14 hb_ rfl rfl rfl), Q_HBr, fun _ h1_ => absurd ((hon 4 (by kernel_rfl)).symm.trans h1_) (by decide), fun _ h1_ => absurd ((hon 10 (by kernel_rfl)).symm.trans h1_) (by decide), Q_BL34, Q_RO35, Q_RA36, fun _ _ h2_ => absurd ((hon 10 (by kernel_rfl)).symm.trans h2_) (by decide), fun _ _ h2_ => absurd ((hon 4 (by kernel_rfl)).symm.trans h2_) (by decide), Q_X9_, Q_X11_, Q_X12_, Q_X13_, fun _ => rfl, Q_X15_, fun h0_ => absurd ((hoff 16 (by kernel_rfl)).symm.trans h0_) (by decide)⟩
    refine steps_cons ?_ ?_
    · rintro b a w' ⟨v26_, v29_, g34_, v35_, a36_, b36_, m9_, m11_, m12_, m13_, m14_, m15_, m16_, ha, Q_HBr, Q_RO26, Q_RO29, Q_BL34, Q_RO35, Q_RA36, Q_NE29_34, Q_NE26_34, Q_X9_, Q_X11_, Q_X12_, Q_X13_, Q_X14_, Q_X15_, Q_X16_⟩ hb_ hon hoff
      refine ⟨_, rfl, fun K hK => ?_⟩
      have e37 : a.tmps[37]? = some (m13_) := by rw [ha]; exact putSel_on (e := (13, 37, m13_)) 13 rfl rfl (hon 13 (by kernel_rfl)) rfl
      rw [Q_X13_ (hon 13 (by kernel_rfl))] at e37
      replace ha := Aside0.mk ha
      have HBr := Aside0.mk Q_HBr
      have BL34 := Aside0.mk (Q_BL34 (hon 9 (by kernel_rfl)))
      have RO35 := Aside0.mk (Q_RO35 (hon 10 (by kernel_rfl)))
      have RA36 := Aside0.mk (Q_RA36 (hon 11 (by kernel_rfl)))
      refine value_ (w1 := w') (v := a36_) (by rfl) rfl ?_ ?_
      · go_simp
        (try simp only [i64_w])
        try rfl
      refine hK.out _ _ ⟨v26_, v29_, g34_, v35_, a36_, b36_, m9_, m11_, m12_, m13_, m14_, (a36_), m16_, (by rw [ha.out]; exact putSel_upk 15 hb_ rfl rfl rfl), Q_HBr, fun _ h1_ => absurd ((hon 4 (by kernel_rfl)).symm.trans h1_) (by decide), fun _ h1_ => absurd ((hon 10 (by kernel_rfl)).symm.trans h1_) (by decide), Q_BL34, Q_RO35, Q_RA36, fun _ _ h2_ => absurd ((hon 10 (by kernel_rfl)).symm.trans h2_) (by decide), fun _ _ h2_ => absurd ((hon 4 (by kernel_rfl)).symm.trans h2_) (by decide), Q_X9_, Q_X11_, Q_X12_, Q_X13_, Q_X14_, fun _ => rfl, fun h0_ => absurd ((hoff 16 (by kernel_rfl)).symm.trans h0_) (by decide)⟩
    refine steps_cons ?_ ?_
    · rintro b a w' ⟨v26_, v29_, g34_, v35_, a36_, b36_, m9_, m11_, m12_, m13_, m14_, m15_, m16_, ha, Q_HBr, Q_RO26, Q_RO29, Q_BL34, Q_RO35, Q_RA36, Q_NE29_34, Q_NE26_34, Q_X9_, Q_X11_, Q_X12_, Q_X13_, Q_X14_, Q_X15_, Q_X16_⟩ hb_ hon hoff
      refine ⟨_, rfl, fun K hK => ?_⟩
      have e38 : a.tmps[38]? = some (m14_) := by rw [ha]; exact putSel_on (e := (14, 38, m14_)) 14 rfl rfl (hon 14 (by kernel_rfl)) rfl
      rw [Q_X14_ (hon 14 (by kernel_rfl))] at e38
      replace ha := Aside0.mk ha
      have HBr := Aside0.mk Q_HBr
      have BL34 := Aside0.mk (Q_BL34 (hon 9 (by kernel_rfl)))
      have RO35 := Aside0.mk (Q_RO35 (hon 10 (by kernel_rfl)))
      have RA36 := Aside0.mk (Q_RA36 (hon 11 (by kernel_rfl)))
      refine value_ (w1 := w') (v := b36_) (by rfl) rfl ?_ ?_
      · go_simp
        (try simp only [i64_w])
        try rfl
      refine hK.out _ _ ⟨v26_, v29_, g34_, v35_, a36_, b36_, m9_, m11_, m12_, m13_, m14_, m15_, (b36_), (by rw [ha.out]; exact putSel_upk 16 hb_ rfl rfl rfl), Q_HBr, fun _ h1_ => absurd ((hon 4 (by kernel_rfl)).symm.trans h1_) (by decide), fun _ h1_ => absurd ((hon 10 (by kernel_rfl)).symm.trans h1_) (by decide), Q_BL34, Q_RO35, Q_RA36, fun _ _ h2_ => absurd ((hon 10 (by kernel_rfl)).symm.trans h2_) (by decide), fun _ _ h2_ => absurd ((hon 4 (by kernel_rfl)).symm.trans h2_) (by decide), Q_X9_, Q_X11_, Q_X12_, Q_X13_, Q_X14_, Q_X15_, fun _ => rfl⟩
    exact steps_nil
  rintro b a w' hall ⟨v26_, v29_, g34_, v35_, a36_, b36_, m9_, m11_, m12_, m13_, m14_, m15_, m16_, ha, Q_HBr, Q_RO26, Q_RO29, Q_BL34, Q_RO35, Q_RA36, Q_NE29_34, Q_NE26_34, Q_X9_, Q_X11_, Q_X12_, Q_X13_, Q_X14_, Q_X15_, Q_X16_⟩
  clear HBr
  have hb0_ := hall 0 (by kernel_rfl)
  have hb1_ := hall 1 (by kernel_rfl)
  have hb2_ := hall 2 (by kernel_rfl)
  have hb3_ := hall 3 (by kernel_rfl)
  have hb4_ := hall 4 (by kernel_rfl)
  have hb5_ := hall 5 (by kernel_rfl)
  have hb6_ := hall 6 (by kernel_rfl)
  have hb7_ := hall 7 (by kernel_rfl)
  have hb8_ := hall 8 (by kernel_rfl)
  have hb9_ := hall 9 (by kernel_rfl)
  have hb10_ := hall 10 (by kernel_rfl)
  have hb11_ := hall 11 (by kernel_rfl)
  have hb12_ := hall 12 (by kernel_rfl)
  have hb13_ := hall 13 (by kernel_rfl)
  have hb14_ := hall 14 (by kernel_rfl)
  have hb15_ := hall 15 (by kernel_rfl)
  have hb16_ := hall 16 (by kernel_rfl)
  subst ha
  obtain rfl := Q_X9_ hb9_
  obtain rfl := Q_X11_ hb11_
  obtain rfl := Q_X12_ hb12_
  obtain rfl := Q_X13_ hb13_
  obtain rfl := Q_X14_ hb14_
  obtain rfl := Q_X15_ hb15_
  obtain rfl := Q_X16_ hb16_
  simp only [putSel, hb0_, hb1_, hb2_, hb3_, hb4_, hb5_, hb6_, hb7_, hb8_, hb9_, hb10_, hb11_, hb12_, hb13_, hb14_, hb15_, hb16_, if_true, Act.put, List.setIfInBounds_toArray, List.set_cons_zero, List.set_cons_succ]
  have HBr := Aside0.mk Q_HBr
  clear Q_HBr
  clear Q_RO26
  clear Q_RO29
  have BL34 := Aside0.mk (Q_BL34 hb9_)
  clear Q_BL34
  have RO35 := Aside0.mk (Q_RO35 hb10_)
  clear Q_RO35
  have RA36 := Aside0.mk (Q_RA36 hb11_)
  clear Q_RA36
  clear Q_NE29_34
  clear Q_NE26_34
  clear hall hb0_ hb1_ hb2_ hb3_ hb4_ hb5_ hb6_ hb7_ hb8_ hb9_ hb10_ hb11_ hb12_ hb13_ hb14_ hb15_ hb16_
  obtain ⟨w4, rfl⟩ : ∃ z : World, z = w' := ⟨_, rfl⟩
  replace XN := Aside0.mk (blk_below HBr.out XN.out)
  replace XS := Aside0.mk (blk_below HBr.out XS.out)
  replace XK := Aside0.mk (blk_below HBr.out XK.out)
  replace XL := Aside0.mk (Sl_below XL.out HBr.out)
  replace HB := Aside0.mk (below_step HB.out HBr.out)
  clear HBr
  try clear HT_ HW_ hHeld
  have x_K0 : (w4.alloc (.cells #[] 3)).cell? ⟨w.heap.size + 1 + 1, 0, none⟩ = some (.slice Ak1 k.f0.length ck1) := (blk_cell (blk_alloc XK.out _) 0).trans rfl
  have x_K1 : (w4.alloc (.cells #[] 3)).cell? ⟨w.heap.size + 1 + 1, 1, none⟩ = some (.slice Ak2 k.f1.length ck2) := (blk_cell (blk_alloc XK.out _) 1).trans rfl
  have x_K2 : (w4.alloc (.cells #[] 3)).cell? ⟨w.heap.size + 1 + 1, 2, none⟩ = some (.slice Ak3 k.f2.length ck3) := (blk_cell (blk_alloc XK.out _) 2).trans rfl
  have x_K3 : (w4.alloc (.cells #[] 3)).cell? ⟨w.heap.size + 1 + 1, 3, none⟩ = some (.int .i64 k.f3) := (blk_cell (blk_alloc XK.out _) 3).trans rfl
  go_wp2_with (first | ((with_reducible refine gate_builtin (b := .append) (xs := #[.tmp 41, .tmp 43]) rfl ?_); at_builtin; refine Kd.R_append_rows (Kd.int .i64) (w0 := w4) w4.heap.size rfl (.tmp 41) (.tmp 43) 24 3 _ _ rfl Try.underlying24 info3 rfl (by decide) (by decide) (.slice (some ⟨w4.heap.size, 0, none⟩) 0 0) [] k.f1 _ _ _ (fun _ => True) (fun _ => False) (by first | (go_simp; done) | (go_simp; rfl)) (by first | (go_simp; done) | (go_simp; rfl)) (R_lit_alloc (Kd.int .i64) 3 w4 (Nat.le_refl _) (xs := []) (inner := []) (Reps.none _ _) (by simp)) (Kd.C_below K2.out (below_alloc HB.out _)) (fun _ _ h => h) (fun _ h => h.elim) (fun _ _ => trivial) (below_alloc (Below.refl _ _) _) (by simp) (by simp; omega) ?_; intro v3 z3 hR hB hg hat) | ((with_reducible refine gate_builtin (b := .append) (xs := #[.tmp 44, .tmp 46]) rfl ?_); at_builtin; refine Kd.R_append (Kd.int .i64) (w0 := w4) w4.heap.size rfl (.tmp 44) (.tmp 46) 24 3 _ _ rfl Try.underlying24 info3 rfl (by decide) (by decide) v3 k.f1 era [.int .i64 era] (fun _ => True) (fun _ => False) rfl (by first | (go_simp; done) | (go_simp; rfl)) rfl (fun _ h => h.elim) (fun _ _ => trivial) hR hB (below_size hB) (by omega) ?_; intro v4 z4 hR2 hB2 hg2 hat2))
  clear hg hat hR hB hg2 hat2
  clear x_K0 x_K1 x_K2 x_K3
  refine (Eras_s (Sl_below XL.out hB2) (by simp) (Sl_sc (Sl_R hR2))).mono ?_
  rintro e w5 ⟨a48_, b48_, rfl, RA48, _, hb⟩
  replace hb := below_step hB2 hb
  clear hR2 hB2
  replace XN := Aside0.mk (blk_below hb XN.out)
  replace XS := Aside0.mk (blk_below hb XS.out)
  replace XK := Aside0.mk (blk_below hb XK.out)
  replace XL := Aside0.mk (Sl_below XL.out hb)
  replace RA36 := Aside0.mk (Sl_below RA36.out hb)
  replace HB := Aside0.mk (below_step HB.out hb)
  clear hb
  replace RA48 := Aside0.mk RA48
  go_wp2
  refine start_ (n := 14) (S := fun w' => True) (ds := []) #[false, false, false, false, false, false, false, false, false, false, false, false, false, false] (by kernel_rfl) rfl rfl trivial (fun hHeld => ?_)
  refine with_tabW guards.tab8 guards.bits8 (fun HT_ HW_ => ?_)
  have HBr := Aside0.mk (below_drew1 (Below.refl w5.heap.size w5))
  refine inv_at [0, 1, 2, 3, 4, 5, 6, 7, 8, 9, 10, 11, 12, 13] (fun a0_ b a w' => ∃ (v53_ : Value) (v56_ : Value) (g58_ : Nat) (v59_ : Value) (a60_ : Value) (b60_ : Value) (m6_ : Value) (m8_ : Value) (m9_ : Value) (m10_ : Value) (m11_ : Value) (m12_ : Value) (m13_ : Value), a = putSel a0_ b [(0, 52, .slice (some ⟨B, 0, none⟩) 1 1), (1, 53, v53_), (2, 54, .pointer (some ⟨w.heap.size + 1 + 1, 2, none⟩)), (3, 55, .slice Ak3 k.f2.length ck3), (4, 56, v56_), (5, 57, .agg #[.bool s.f0, .int .i64 s.f1, .int .i64 s.f2]), (6, 58, m6_), (7, 59, v59_), (8, 60, m8_), (9, 51, m9_), (10, 61, m10_), (11, 62, m11_), (12, 14, m12_), (13, 15, m13_)] ∧ (Below w5.heap.size w5 w') ∧ (b 1 = true → b 4 = false → Kd.R k41 41 w' w5.heap.size (fun _ => True) v53_ []) ∧ (b 4 = true → b 7 = false → Kd.R k41 41 w' w5.heap.size (fun _ => True) v56_ (k.f2)) ∧ (b 6 = true → w'.heap[g58_]? = some (.cells #[.bool s.f0, .int .i64 s.f1, .int .i64 s.f2] 41 (0, 0))) ∧ (b 7 = true → Kd.R k41 41 w' w5.heap.size (fun _ => True) v59_ (k.f2 ++ [s])) ∧ (b 8 = true → Sl k39 w' a60_ ([n].filter fun x => !spB (k.f2 ++ [s]) x)) ∧ (b 4 = true → b 6 = true → b 7 = false → some g58_ ≠ v56_.ownBlock) ∧ (b 1 = true → b 6 = true → b 4 = false → some g58_ ≠ v53_.ownBlock) ∧ (b 6 = true → (m6_ : Value) = .slice (some ⟨g58_, 0, none⟩) 1 1) ∧ (b 8 = true → (m8_ : Value) = .tuple #[a60_, b60_]) ∧ (b 9 = true → (m9_ : Value) = .tuple #[a60_, b60_]) ∧ (b 10 = true → (m10_ : Value) = a60_) ∧ (b 11 = true → (m11_ : Value) = b60_) ∧ (b 12 = true → (m12_ : Value) = a60_) ∧ (b 13 = true → (m13_ : Value) = b60_)) HT_.out HW_.out (by kernel_rfl) (by kernel_rfl) ?_ ?_ ?_
  · exact ⟨.bool false, .bool false, 0, .bool false, .bool false, .bool false, .bool false, .bool false, .bool false, .bool false, .bool false, .bool false, .bool false, by simp only [putSel, Bool.false_eq_true, if_false], HBr.out, fun h_ => absurd h_ (by decide), fun h_ => absurd h_ (by decide), fun h_ => absurd h_ (by decide), fun h_ => absurd h_ (by decide), fun h_ => absurd h_ (by decide), fun h_ => absurd h_ (by decide), fun h_ => absurd h_ (by decide), fun h_ => absurd h_ (by decide), fun h_ => absurd h_ (by decide), fun h_ => absurd h_ (by decide), fun h_ => absurd h_ (by decide), fun h_ => absurd h_ (by decide), fun h_ => absurd h_ (by decide), fun h_ => absurd h_ (by decide)⟩
  · skip
    clear HBr
    refine steps_cons ?_ ?_
    · rintro b a w' ⟨v53_, v56_, g58_, v59_, a60_, b60_, m6_, m8_, m9_, m10_, m11_, m12_, m13_, ha, Q_HBr, Q_RO53, Q_RO56, Q_BL58, Q_RO59, Q_RA60, Q_NE56_58, Q_NE53_58, Q_X6_, Q_X8_, Q_X9_, Q_X10_, Q_X11_, Q_X12_, Q_X13_⟩ hb_ hon hoff
      refine ⟨_, rfl, fun K hK => ?_⟩
      have e9 : a.tmps[9]? = some (.slice (some ⟨B, 0, none⟩) 1 1) := by rw [ha]; exact (putSel_off rfl).trans rfl
      replace ha := Aside0.mk ha
      have HBr := Aside0.mk Q_HBr
      refine value_ (w1 := w') (v := .slice (some ⟨B, 0, none⟩) 1 1) (by rfl) rfl ?_ ?_
      · go_simp
        (try simp only [i64_w])
        try rfl
      refine hK.out _ _ ⟨v53_, v56_, g58_, v59_, a60_, b60_, m6_, m8_, m9_, m10_, m11_, m12_, m13_, (by rw [ha.out]; exact putSel_upk 0 hb_ rfl rfl rfl), Q_HBr, Q_RO53, Q_RO56, Q_BL58, Q_RO59, fun h0_ => absurd ((hoff 8 (by kernel_rfl)).symm.trans h0_) (by decide), Q_NE56_58, Q_NE53_58, Q_X6_, fun h0_ => absurd ((hoff 8 (by kernel_rfl)).symm.trans h0_) (by decide), fun h0_ => absurd ((hoff 9 (by kernel_rfl)).symm.trans h0_) (by decide), fun h0_ => absurd ((hoff 10 (by kernel_rfl)).symm.trans h0_) (by decide), fun h0_ => absurd ((hoff 11 (by kernel_rfl)).symm.trans h0_) (by decide), fun h0_ => absurd ((hoff 12 (by kernel_rfl)).symm.trans h0_) (by decide), fun h0_ => absurd ((hoff 13 (by kernel_rfl)).symm.trans h0_) (by decide)⟩
    refine steps_cons ?_ ?_
    · rintro b a w' ⟨v53_, v56_, g58_, v59_, a60_, b60_, m6_, m8_, m9_, m10_, m11_, m12_, m13_, ha, Q_HBr, Q_RO53, Q_RO56, Q_BL58, Q_RO59, Q_RA60, Q_NE56_58, Q_NE53_58, Q_X6_, Q_X8_, Q_X9_, Q_X10_, Q_X11_, Q_X12_, Q_X13_⟩ hb_ hon hoff
      refine ⟨_, rfl, fun K hK => ?_⟩
      replace ha := Aside0.mk ha
      have HBr := Aside0.mk Q_HBr
      refine event_step (w1 := w'.alloc (.cells #[] 41)) (v := .slice (some ⟨w'.heap.size, 0, none⟩) 0 0) (by rfl) ?_ ?_
      · go_simp
        try rfl
      refine hK.out _ _ ⟨.slice (some ⟨w'.heap.size, 0, none⟩) 0 0, v56_, g58_, v59_, a60_, b60_, m6_, m8_, m9_, m10_, m11_, m12_, m13_, (by rw [ha.out]; exact putSel_upk 1 hb_ rfl rfl rfl), below_step HBr.out (below_alloc (Below.refl w'.heap.size w') _), fun _ _ => R_lit_alloc k41 41 w' (below_size HBr.out) (xs := []) (inner := []) (Reps.none _ _) (by simp), fun h0_ _ => absurd ((hoff 4 (by kernel_rfl)).symm.trans h0_) (by decide), fun h0_ => blk_below (below_alloc (Below.refl w'.heap.size w') _) (Q_BL58 h0_), fun h0_ => absurd ((hoff 7 (by kernel_rfl)).symm.trans h0_) (by decide), fun h0_ => absurd ((hoff 8 (by kernel_rfl)).symm.trans h0_) (by decide), fun h0_ _ _ => absurd ((hoff 4 (by kernel_rfl)).symm.trans h0_) (by decide), fun _ h1_ _ => ne_fresh (blk_lt (Q_BL58 h1_)), Q_X6_, fun h0_ => absurd ((hoff 8 (by kernel_rfl)).symm.trans h0_) (by decide), fun h0_ => absurd ((hoff 9 (by kernel_rfl)).symm.trans h0_) (by decide), fun h0_ => absurd ((hoff 10 (by kernel_rfl)).symm.trans h0_) (by decide), fun h0_ => absurd ((hoff 11 (by kernel_rfl)).symm.trans h0_) (by decide), fun h0_ => absurd ((hoff 12 (by kernel_rfl)).symm.trans h0_) (by decide), fun h0_ => absurd ((hoff 13 (by kernel_rfl)).symm.trans h0_) (by decide)⟩
    refine steps_cons ?_ ?_
    · rintro b a w' ⟨v53_, v56_, g58_, v59_, a60_, b60_, m6_, m8_, m9_, m10_, m11_, m12_, m13_, ha, Q_HBr, Q_RO53, Q_RO56, Q_BL58, Q_RO59, Q_RA60, Q_NE56_58, Q_NE53_58, Q_X6_, Q_X8_, Q_X9_, Q_X10_, Q_X11_, Q_X12_, Q_X13_⟩ hb_ hon hoff
      refine ⟨_, rfl, fun K hK => ?_⟩
      have e7 : a.tmps[7]? = some (.pointer (some ⟨w.heap.size + 1 + 1, 0, none⟩)) := by rw [ha]; exact (putSel_off rfl).trans rfl
      replace ha := Aside0.mk ha
      have HBr := Aside0.mk Q_HBr
      refine value_ (w1 := w') (v := .pointer (some ⟨w.heap.size + 1 + 1, 2, none⟩)) (by rfl) rfl ?_ ?_
      · go_simp
        (try simp only [i64_w])
        try rfl
      refine hK.out _ _ ⟨v53_, v56_, g58_, v59_, a60_, b60_, m6_, m8_, m9_, m10_, m11_, m12_, m13_, (by rw [ha.out]; exact putSel_upk 2 hb_ rfl rfl rfl), Q_HBr, Q_RO53, fun h0_ _ => absurd ((hoff 4 (by kernel_rfl)).symm.trans h0_) (by decide), Q_BL58, fun h0_ => absurd ((hoff 7 (by kernel_rfl)).symm.trans h0_) (by decide), fun h0_ => absurd ((hoff 8 (by kernel_rfl)).symm.trans h0_) (by decide), fun h0_ _ _ => absurd ((hoff 4 (by kernel_rfl)).symm.trans h0_) (by decide), Q_NE53_58, Q_X6_, fun h0_ => absurd ((hoff 8 (by kernel_rfl)).symm.trans h0_) (by decide), fun h0_ => absurd ((hoff 9 (by kernel_rfl)).symm.trans h0_) (by decide), fun h0_ => absurd ((hoff 10 (by kernel_rfl)).symm.trans h0_) (by decide), fun h0_ => absurd ((hoff 11 (by kernel_rfl)).symm.trans h0_) (by decide), fun h0_ => absurd ((hoff 12 (by kernel_rfl)).symm.trans h0_) (by decide), fun h0_ => absurd ((hoff 13 (by kernel_rfl)).symm.trans h0_) (by decide)⟩
    refine steps_cons ?_ ?_
    · rintro b a w' ⟨v53_, v56_, g58_, v59_, a60_, b60_, m6_, m8_, m9_, m10_, m11_, m12_, m13_, ha, Q_HBr, Q_RO53, Q_RO56, Q_BL58, Q_RO59, Q_RA60, Q_NE56_58, Q_NE53_58, Q_X6_, Q_X8_, Q_X9_, Q_X10_, Q_X11_, Q_X12_, Q_X13_⟩ hb_ hon hoff
      refine ⟨_, rfl, fun K hK => ?_⟩
      have e54 : a.tmps[54]? = some (.pointer (some ⟨w.heap.size + 1 + 1, 2, none⟩)) := by rw [ha]; exact putSel_on (e := (2, 54, .pointer (some ⟨w.heap.size + 1 + 1, 2, none⟩))) 2 rfl rfl (hon 2 (by kernel_rfl)) rfl
      replace ha := Aside0.mk ha
      have HBr := Aside0.mk Q_HBr
      have z2_ : w'.cell? ⟨w.heap.size + 1 + 1, 2, none⟩ = some (.slice Ak3 k.f2.length ck3) := (blk_cell (blk_below HBr.out XK.out) 2).trans rfl
      refine value_ (w1 := w') (v := .slice Ak3 k.f2.length ck3) (by rfl) rfl ?_ ?_
      · go_simp
        (try simp only [i64_w])
        try rfl
      refine hK.out _ _ ⟨v53_, v56_, g58_, v59_, a60_, b60_, m6_, m8_, m9_, m10_, m11_, m12_, m13_, (by rw [ha.out]; exact putSel_upk 3 hb_ rfl rfl rfl), Q_HBr, Q_RO53, fun h0_ _ => absurd ((hoff 4 (by kernel_rfl)).symm.trans h0_) (by decide), Q_BL58, fun h0_ => absurd ((hoff 7 (by kernel_rfl)).symm.trans h0_) (by decide), fun h0_ => absurd ((hoff 8 (by kernel_rfl)).symm.trans h0_) (by decide), fun h0_ _ _ => absurd ((hoff 4 (by kernel_rfl)).symm.trans h0_) (by decide), Q_NE53_58, Q_X6_, fun h0_ => absurd ((hoff 8 (by kernel_rfl)).symm.trans h0_) (by decide), fun h0_ => absurd ((hoff 9 (by kernel_rfl)).symm.trans h0_) (by decide), fun h0_ => absurd ((hoff 10 (by kernel_rfl)).symm.trans h0_) (by decide), fun h0_ => absurd ((hoff 11 (by kernel_rfl)).symm.trans h0_) (by decide), fun h0_ => absurd ((hoff 12 (by kernel_rfl)).symm.trans h0_) (by decide), fun h0_ => absurd ((hoff 13 (by kernel_rfl)).symm.trans h0_) (by decide)⟩
    refine steps_cons ?_ ?_
    · rintro b a w' ⟨v53_, v56_, g58_, v59_, a60_, b60_, m6_, m8_, m9_, m10_, m11_, m12_, m13_, ha, Q_HBr, Q_RO53, Q_RO56, Q_BL58, Q_RO59, Q_RA60, Q_NE56_58, Q_NE53_58, Q_X6_, Q_X8_, Q_X9_, Q_X10_, Q_X11_, Q_X12_, Q_X13_⟩ hb_ hon hoff
      refine ⟨_, rfl, fun K hK => ?_⟩
      have e53 : a.tmps[53]? = some (v53_) := by rw [ha]; exact putSel_on (e := (1, 53, v53_)) 1 rfl rfl (hon 1 (by kernel_rfl)) rfl
      have e55 : a.tmps[55]? = some (.slice Ak3 k.f2.length ck3) := by rw [ha]; exact putSel_on (e := (3, 55, .slice Ak3 k.f2.length ck3)) 3 rfl rfl (hon 3 (by kernel_rfl)) rfl
      replace ha := Aside0.mk ha
      have HBr := Aside0.mk Q_HBr
      have RO53 := Aside0.mk (Q_RO53 (hon 1 (by kernel_rfl)) hb_)
      refine Kd.R_append_rows_step k41 (w0 := w5) w5.heap.size (by rfl) (.tmp 53) (.tmp 55) 25 41 _ _ rfl Try.underlying25 info41 rfl (by decide) (by decide) v53_ ([] : List S41) (k.f2) _ _ _ (fun _ => True) (fun _ => False) (by first | (go_simp; done) | (go_simp; rfl)) (by first | (go_simp; done) | (go_simp; rfl)) RO53.out (Kd.C_below K3.out (below_step HB.out HBr.out)) (fun _ _ h => h) (fun _ h => h.elim) (fun _ _ => trivial) HBr.out (below_size HBr.out) (by first | omega | (simp; done) | (simp; omega)) ?_
      intro va_ w1 hR_ hB_ hg_ hat_
      refine hK.out _ _ ⟨v53_, va_, g58_, v59_, a60_, b60_, m6_, m8_, m9_, m10_, m11_, m12_, m13_, (by rw [ha.out]; exact putSel_upk 4 hb_ rfl rfl rfl), hB_, fun _ h1_ => absurd ((up_self b 4).symm.trans h1_) (by decide), fun _ _ => hR_, fun h_ => (hg_.block _ (blk_lt (Q_BL58 h_)) (Q_NE53_58 (hon 1 (by kernel_rfl)) h_ hb_)).trans (Q_BL58 h_), fun h0_ => absurd ((hoff 7 (by kernel_rfl)).symm.trans h0_) (by decide), fun h0_ => absurd ((hoff 8 (by kernel_rfl)).symm.trans h0_) (by decide), fun _ h1_ _ => ne_app hat_ (Q_NE53_58 (hon 1 (by kernel_rfl)) h1_ hb_) (blk_lt (Q_BL58 h1_)), fun _ _ h2_ => absurd ((up_self b 4).symm.trans h2_) (by decide), Q_X6_, fun h0_ => absurd ((hoff 8 (by kernel_rfl)).symm.trans h0_) (by decide), fun h0_ => absurd ((hoff 9 (by kernel_rfl)).symm.trans h0_) (by decide), fun h0_ => absurd ((hoff 10 (by kernel_rfl)).symm.trans h0_) (by decide), fun h0_ => absurd ((hoff 11 (by kernel_rfl)).symm.trans h0_) (by decide), fun h0_ => absurd ((hoff 12 (by kernel_rfl)).symm.trans h0_) (by decide), fun h0_ => absurd ((hoff 13 (by kernel_rfl)).symm.trans h0_) (by decide)⟩
    refine steps_cons ?_ ?_
    · rintro b a w' ⟨v53_, v56_, g58_, v59_, a60_, b60_, m6_, m8_, m9_, m10_, m11_, m12_, m13_, ha, Q_HBr, Q_RO53, Q_RO56, Q_BL58, Q_RO59, Q_RA60, Q_NE56_58, Q_NE53_58, Q_X6_, Q_X8_, Q_X9_, Q_X10_, Q_X11_, Q_X12_, Q_X13_⟩ hb_ hon hoff
      refine ⟨_, rfl, fun K hK => ?_⟩
      have e6 : a.tmps[6]? = some (.pointer (some ⟨w.heap.size + 1, 0, none⟩)) := by rw [ha]; exact (putSel_off rfl).trans rfl
      replace ha := Aside0.mk ha
      have HBr := Aside0.mk Q_HBr
      have z0_ : w'.cell? ⟨w.heap.size + 1, 0, none⟩ = some (.bool s.f0) := (blk_cell (blk_below HBr.out XS.out) 0).trans rfl
      have z1_ : w'.cell? ⟨w.heap.size + 1, 1, none⟩ = some (.int .i64 s.f1) := (blk_cell (blk_below HBr.out XS.out) 1).trans rfl
      have z2_ : w'.cell? ⟨w.heap.size + 1, 2, none⟩ = some (.int .i64 s.f2) := (blk_cell (blk_below HBr.out XS.out) 2).trans rfl
      refine value_ (w1 := w') (v := .agg #[.bool s.f0, .int .i64 s.f1, .int .i64 s.f2]) (by rfl) rfl ?_ ?_
      · go_simp
        (try simp only [i64_w])
        try rfl
      refine hK.out _ _ ⟨v53_, v56_, g58_, v59_, a60_, b60_, m6_, m8_, m9_, m10_, m11_, m12_, m13_, (by rw [ha.out]; exact putSel_upk 5 hb_ rfl rfl rfl), Q_HBr, Q_RO53, Q_RO56, fun h0_ => absurd ((hoff 6 (by kernel_rfl)).symm.trans h0_) (by decide), fun h0_ => absurd ((hoff 7 (by kernel_rfl)).symm.trans h0_) (by decide), fun h0_ => absurd ((hoff 8 (by kernel_rfl)).symm.trans h0_) (by decide), fun _ h1_ _ => absurd ((hoff 6 (by kernel_rfl)).symm.trans h1_) (by decide), fun _ h1_ _ => absurd ((hoff 6 (by kernel_rfl)).symm.trans h1_) (by decide), fun h0_ => absurd ((hoff 6 (by kernel_rfl)).symm.trans h0_) (by decide), fun h0_ => absurd ((hoff 8 (by kernel_rfl)).symm.trans h0_) (by decide), fun h0_ => absurd ((hoff 9 (by kernel_rfl)).symm.trans h0_) (by decide), fun h0_ => absurd ((hoff 10 (by kernel_rfl)).symm.trans h0_) (by decide), fun h0_ => absurd ((hoff 11 (by kernel_rfl)).symm.trans h0_) (by decide), fun h0_ => absurd ((hoff 12 (by kernel_rfl)).symm.trans h0_) (by decide), fun h0_ => absurd ((hoff 13 (by kernel_rfl)).symm.trans h0_) (by decide)⟩
    refine steps_cons ?_ ?_
    · rintro b a w' ⟨v53_, v56_, g58_, v59_, a60_, b60_, m6_, m8_, m9_, m10_, m11_, m12_, m13_, ha, Q_HBr, Q_RO53, Q_RO56, Q_BL58, Q_RO59, Q_RA60, Q_NE56_58, Q_NE53_58, Q_X6_, Q_X8_, Q_X9_, Q_X10_, Q_X11_, Q_X12_, Q_X13_⟩ hb_ hon hoff
      refine ⟨_, rfl, fun K hK => ?_⟩
      have e57 : a.tmps[57]? = some (.agg #[.bool s.f0, .int .i64 s.f1, .int .i64 s.f2]) := by rw [ha]; exact putSel_on (e := (5, 57, .agg #[.bool s.f0, .int .i64 s.f1, .int .i64 s.f2])) 5 rfl rfl (hon 5 (by kernel_rfl)) rfl
      replace ha := Aside0.mk ha
      have HBr := Aside0.mk Q_HBr
      refine event_step (w1 := w'.alloc (.cells #[.bool s.f0, .int .i64 s.f1, .int .i64 s.f2] 41)) (v := .slice (some ⟨w'.heap.size, 0, none⟩) 1 1) (by rfl) ?_ ?_
      · go_simp
        try rfl
      refine hK.out _ _ ⟨v53_, v56_, w'.heap.size, v59_, a60_, b60_, (.slice (some ⟨w'.heap.size, 0, none⟩) 1 1), m8_, m9_, m10_, m11_, m12_, m13_, (by rw [ha.out]; exact putSel_upk 6 hb_ rfl rfl rfl), below_step HBr.out (below_alloc (Below.refl w'.heap.size w') _), fun h0_ h1_ => Kd.R_below (Q_RO53 h0_ h1_) (below_alloc (Below.refl w'.heap.size w') _), fun h0_ h1_ => Kd.R_below (Q_RO56 h0_ h1_) (below_alloc (Below.refl w'.heap.size w') _), fun _ => blk_new w' _, fun h0_ => absurd ((hoff 7 (by kernel_rfl)).symm.trans h0_) (by decide), fun h0_ => absurd ((hoff 8 (by kernel_rfl)).symm.trans h0_) (by decide), fun h0_ _ h2_ => Kd.fresh_ok (Q_RO56 h0_ h2_) _ (Nat.le_refl _), fun h0_ _ h2_ => Kd.fresh_ok (Q_RO53 h0_ h2_) _ (Nat.le_refl _), fun _ => rfl, fun h0_ => absurd ((hoff 8 (by kernel_rfl)).symm.trans h0_) (by decide), fun h0_ => absurd ((hoff 9 (by kernel_rfl)).symm.trans h0_) (by decide), fun h0_ => absurd ((hoff 10 (by kernel_rfl)).symm.trans h0_) (by decide), fun h0_ => absurd ((hoff 11 (by kernel_rfl)).symm.trans h0_) (by decide), fun h0_ => absurd ((hoff 12 (by kernel_rfl)).symm.trans h0_) (by decide), fun h0_ => absurd ((hoff 13 (by kernel_rfl)).symm.trans h0_) (by decide)⟩
    refine steps_cons ?_ ?_
    · rintro b a w' ⟨v53_, v56_, g58_, v59_, a60_, b60_, m6_, m8_, m9_, m10_, m11_, m12_, m13_, ha, Q_HBr, Q_RO53, Q_RO56, Q_BL58, Q_RO59, Q_RA60, Q_NE56_58, Q_NE53_58, Q_X6_, Q_X8_, Q_X9_, Q_X10_, Q_X11_, Q_X12_, Q_X13_⟩ hb_ hon hoff
      refine ⟨_, rfl, fun K hK => ?_⟩
      have e56 : a.tmps[56]? = some (v56_) := by rw [ha]; exact putSel_on (e := (4, 56, v56_)) 4 rfl rfl (hon 4 (by kernel_rfl)) rfl
      have e58 : a.tmps[58]? = some (m6_) := by rw [ha]; exact putSel_on (e := (6, 58, m6_)) 6 rfl rfl (hon 6 (by kernel_rfl)) rfl
      rw [Q_X6_ (hon 6 (by kernel_rfl))] at e58
      replace ha := Aside0.mk ha
      have HBr := Aside0.mk Q_HBr
      have RO56 := Aside0.mk (Q_RO56 (hon 4 (by kernel_rfl)) hb_)
      have BL58 := Aside0.mk (Q_BL58 (hon 6 (by kernel_rfl)))
      have NE56_58 := Aside0.mk (Q_NE56_58 (hon 4 (by kernel_rfl)) (hon 6 (by kernel_rfl)) hb_)
      refine Kd.R_append_rows_step k41 (w0 := w5) w5.heap.size (by rfl) (.tmp 56) (.tmp 58) 25 41 _ _ rfl Try.underlying25 info41 rfl (by decide) (by decide) v56_ (k.f2) ([s]) _ _ _ (fun _ => True) (fun _ => False) (by first | (go_simp; done) | (go_simp; rfl)) (by first | (go_simp; done) | (go_simp; rfl)) RO56.out (C_of_block (BL58.out) (Reps.cons (k41_mk _ s) rfl (Reps.none _ _)) (by simp)) (fun _ _ h => h) (fun _ h => h.elim) (fun _ _ => trivial) HBr.out (below_size HBr.out) (by first | omega | (simp; done) | (simp; omega)) ?_
      intro va_ w1 hR_ hB_ hg_ hat_
      refine hK.out _ _ ⟨v53_, v56_, g58_, va_, a60_, b60_, m6_, m8_, m9_, m10_, m11_, m12_, m13_, (by rw [ha.out]; exact putSel_upk 7 hb_ rfl rfl rfl), hB_, fun _ h1_ => absurd ((hon 4 (by kernel_rfl)).symm.trans h1_) (by decide), fun _ h1_ => absurd ((up_self b 7).symm.trans h1_) (by decide), fun h_ => (hg_.block _ (blk_lt (Q_BL58 h_)) (Q_NE56_58 (hon 4 (by kernel_rfl)) h_ hb_)).trans (Q_BL58 h_), fun _ => hR_, fun h0_ => absurd ((hoff 8 (by kernel_rfl)).symm.trans h0_) (by decide), fun _ _ h2_ => absurd ((up_self b 7).symm.trans h2_) (by decide), fun _ _ h2_ => absurd ((hon 4 (by kernel_rfl)).symm.trans h2_) (by decide), Q_X6_, fun h0_ => absurd ((hoff 8 (by kernel_rfl)).symm.trans h0_) (by decide), fun h0_ => absurd ((hoff 9 (by kernel_rfl)).symm.trans h0_) (by decide), fun h0_ => absurd ((hoff 10 (by kernel_rfl)).symm.trans h0_) (by decide), fun h0_ => absurd ((hoff 11 (by kernel_rfl)).symm.trans h0_) (by decide), fun h0_ => absurd ((hoff 12 (by kernel_rfl)).symm.trans h0_) (by decide), fun h0_ => absurd ((hoff 13 (by kernel_rfl)).symm.trans h0_) (by decide)⟩
    refine steps_cons ?_ ?_
    · rintro b a w' ⟨v53_, v56_, g58_, v59_, a60_, b60_, m6_, m8_, m9_, m10_, m11_, m12_, m13_, ha, Q_HBr, Q_RO53, Q_RO56, Q_BL58, Q_RO59, Q_RA60, Q_NE56_58, Q_NE53_58, Q_X6_, Q_X8_, Q_X9_, Q_X10_, Q_X11_, Q_X12_, Q_X13_⟩ hb_ hon hoff
      refine ⟨_, rfl, fun K hK => ?_⟩
      have e52 : a.tmps[52]? = some (.slice (some ⟨B, 0, none⟩) 1 1) := by rw [ha]; exact putSel_on (e := (0, 52, .slice (some ⟨B, 0, none⟩) 1 1)) 0 rfl rfl (hon 0 (by kernel_rfl)) rfl
      have e59 : a.tmps[59]? = some (v59_) := by rw [ha]; exact putSel_on (e := (7, 59, v59_)) 7 rfl rfl (hon 7 (by kernel_rfl)) rfl
      replace ha := Aside0.mk ha
      have HBr := Aside0.mk Q_HBr
      have BL58 := Aside0.mk (Q_BL58 (hon 6 (by kernel_rfl)))
      have RO59 := Aside0.mk (Q_RO59 (hon 7 (by kernel_rfl)))
      refine goes_ Try.func13 (by kernel_rfl) rfl #[.slice (some ⟨B, 0, none⟩) 1 1, v59_] (by rfl) rfl rfl (by first | (simp only [List.map_toArray, List.map_cons, List.map_nil, Act.eval, Array.getD_eq_getD_getElem?, Option.getD_some, e52, e59]; done) | (simp only [List.map_toArray, List.map_cons, List.map_nil, Act.eval, Array.getD_eq_getD_getElem?, Option.getD_some, e52, e59]; rfl)) ?_
      refine (Spans_s (Sl_below XL.out HBr.out) (by simp) (Sl_sc (Sl_R RO59.out))).mono ?_
      rintro e w1 ⟨v1, v2, rfl, hr1, hr2, hb1⟩
      refine ⟨_, rfl, ?_⟩
      refine hK.out _ _ ⟨v53_, v56_, g58_, v59_, v1, v2, m6_, (.tuple #[v1, v2]), m9_, m10_, m11_, m12_, m13_, (by rw [ha.out]; exact putSel_upk 8 hb_ rfl rfl rfl), below_step HBr.out hb1, fun _ h1_ => absurd ((hon 4 (by kernel_rfl)).symm.trans h1_) (by decide), fun _ h1_ => absurd ((hon 7 (by kernel_rfl)).symm.trans h1_) (by decide), fun _ => blk_below hb1 BL58.out, fun _ => Kd.R_below RO59.out hb1, fun _ => hr1, fun _ _ h2_ => absurd ((hon 7 (by kernel_rfl)).symm.trans h2_) (by decide), fun _ _ h2_ => absurd ((hon 4 (by kernel_rfl)).symm.trans h2_) (by decide), Q_X6_, fun _ => rfl, fun h0_ => absurd ((hoff 9 (by kernel_rfl)).symm.trans h0_) (by decide), fun h0_ => absurd ((hoff 10 (by kernel_rfl)).symm.trans h0_) (by decide), fun h0_ => absurd ((hoff 11 (by kernel_rfl)).symm.trans h0_) (by decide), fun h0_ => absurd ((hoff 12 (by kernel_rfl)).symm.trans h0_) (by decide), fun h0_ => absurd ((hoff 13 (by kernel_rfl)).symm.trans h0_) (by decide)⟩
    refine steps_cons ?_ ?_
    · rintro b a w' ⟨v53_, v56_, g58_, v59_, a60_, b60_, m6_, m8_, m9_, m10_, m11_, m12_, m13_, ha, Q_HBr, Q_RO53, Q_RO56, Q_BL58, Q_RO59, Q_RA60, Q_NE56_58, Q_NE53_58, Q_X6_, Q_X8_, Q_X9_, Q_X10_, Q_X11_, Q_X12_, Q_X13_⟩ hb_ hon hoff
      refine ⟨_, rfl, fun K hK => ?_⟩
      have e60 : a.tmps[60]? = some (m8_) := by rw [ha]; exact putSel_on (e := (8, 60, m8_)) 8 rfl rfl (hon 8 (by kernel_rfl)) rfl
      rw [Q_X8_ (hon 8 (by kernel_rfl))] at e60
      replace ha := Aside0.mk ha
      have HBr := Aside0.mk Q_HBr
      have BL58 := Aside0.mk (Q_BL58 (hon 6 (by kernel_rfl)))
      have RO59 := Aside0.mk (Q_RO59 (hon 7 (by kernel_rfl)))
      have RA60 := Aside0.mk (Q_RA60 (hon 8 (by kernel_rfl)))
      refine value_ (w1 := w') (v := .tuple #[a60_, b60_]) (by rfl) rfl ?_ ?_
      · go_simp
        (try simp only [i64_w])
        try rfl
      refine hK.out _ _ ⟨v53_, v56_, g58_, v59_, a60_, b60_, m6_, m8_, (.tuple #[a60_, b60_]), m10_, m11_, m12_, m13_, (by rw [ha.out]; exact putSel_upk 9 hb_ rfl rfl rfl), Q_HBr, fun _ h1_ => absurd ((hon 4 (by kernel_rfl)).symm.trans h1_) (by decide), fun _ h1_ => absurd ((hon 7 (by kernel_rfl)).symm.trans h1_) (by decide), Q_BL58, Q_RO59, Q_RA60, fun _ _ h2_ => absurd ((hon 7 (by kernel_rfl)).symm.trans h2_) (by decide), fun _ _ h2_ => absurd ((hon 4 (by kernel_rfl)).symm.trans h2_) (by decide), Q_X6_, Q_X8_, fun _ => rfl, fun h0_ => absurd ((hoff 10 (by kernel_rfl)).symm.trans h0_) (by decide), fun h0_ => absurd ((hoff 11 (by kernel_rfl)).symm.trans h0_) (by decide), fun h0_ => absurd ((hoff 12 (by kernel_rfl)).symm.trans h0_) (by decide), fun h0_ => absurd ((hoff 13 (by kernel_rfl)).symm.trans h0_) (by decide)⟩
    refine steps_cons ?_ ?_
    · rintro b a w' ⟨v53_, v56_, g58_, v59_, a60_, b60_, m6_, m8_, m9_, m10_, m11_, m12_, m13_, ha, Q_HBr, Q_RO53, Q_RO56, Q_BL58, Q_RO59, Q_RA60, Q_NE56_58, Q_NE53_58, Q_X6_, Q_X8_, Q_X9_, Q_X10_, Q_X11_, Q_X12_, Q_X13_⟩ hb_ hon hoff
      refine ⟨_, rfl, fun K hK => ?_⟩
      have e51 : a.tmps[51]? = some (m9_) := by rw [ha]; exact putSel_on (e := (9, 51, m9_)) 9 rfl rfl (hon 9 (by kernel_rfl)) rfl
      rw [Q_X9_ (hon 9 (by kernel_rfl))] at e51
      replace ha := Aside0.mk ha
      have HBr := Aside0.mk Q_HBr
      have BL58 := Aside0.mk (Q_BL58 (hon 6 (by kernel_rfl)))
      have RO59 := Aside0.mk (Q_RO59 (hon 7 (by kernel_rfl)))
      have RA60 := Aside0.mk (Q_RA60 (hon 8 (by kernel_rfl)))
      refine value_ (w1 := w') (v := a60_) (by rfl) rfl ?_ ?_
      · go_simp
        (try simp only [i64_w])
        try rfl
      refine hK.out _ _ ⟨v53_, v56_, g58_, v59_, a60_, b60_, m6_, m8_, m9_, (a60_), m11_, m12_, m13_, (by rw [ha.out]; exact putSel_upk 10 hb_ rfl rfl rfl), Q_HBr, fun _ h1_ => absurd ((hon 4 (by kernel_rfl)).symm.trans h1_) (by decide), fun _ h1_ => absurd ((hon 7 (by kernel_rfl)).symm.trans h1_) (by decide), Q_BL58, Q_RO59, Q_RA60, fun _ _ h2_ => absurd ((hon 7 (by kernel_rfl)).symm.trans h2_) (by decide), fun _ _ h2_ => absurd ((hon 4 (by kernel_rfl)).symm.trans h2_) (by decide), Q_X6_, Q_X8_, Q_X9_, fun _ => rfl, Q_X11_, fun h0_ => absurd ((hoff 12 (by kernel_rfl)).symm.trans h0_) (by decide), fun h0_ => absurd ((hoff 13 (by kernel_rfl)).symm.trans h0_) (by decide)⟩
    refine steps_cons ?_ ?_
    · rintro b a w' ⟨v53_, v56_, g58_, v59_, a60_, b60_, m6_, m8_, m9_, m10_, m11_, m12_, m13_, ha, Q_HBr, Q_RO53, Q_RO56, Q_BL58, Q_RO59, Q_RA60, Q_NE56_58, Q_NE53_58, Q_X6_, Q_X8_, Q_X9_, Q_X10_, Q_X11_, Q_X12_, Q_X13_⟩ hb_ hon hoff
      refine ⟨_, rfl, fun K hK => ?_⟩
      have e51 : a.tmps[51]? = some (m9_) := by rw [ha]; exact putSel_on (e := (9, 51, m9_)) 9 rfl rfl (hon 9 (by kernel_rfl)) rfl
      rw [Q_X9_ (hon 9 (by kernel_rfl))] at e51
      replace ha := Aside0.mk ha
      have HBr := Aside0.mk Q_HBr
      have BL58 := Aside0.mk (Q_BL58 (hon 6 (by kernel_rfl)))
      have RO59 := Aside0.mk (Q_RO59 (hon 7 (by kernel_rfl)))
      have RA60 := Aside0.mk (Q_RA60 (hon 8 (by kernel_rfl)))
      refine value_ (w1 := w') (v := b60_) (by rfl) rfl ?_ ?_
      · go_simp
        (try simp only [i64_w])
        try rfl
      refine hK.out _ _ ⟨v53_, v56_, g58_, v59_, a60_, b60_, m6_, m8_, m9_, m10_, (b60_), m12_, m13_, (by rw [ha.out]; exact putSel_upk 11 hb_ rfl rfl rfl), Q_HBr, fun _ h1_ => absurd ((hon 4 (by kernel_rfl)).symm.trans h1_) (by decide), fun _ h1_ => absurd ((hon 7 (by kernel_rfl)).symm.trans h1_) (by decide), Q_BL58, Q_RO59, Q_RA60, fun _ _ h2_ => absurd ((hon 7 (by kernel_rfl)).symm.trans h2_) (by decide), fun _ _ h2_ => absurd ((hon 4 (by kernel_rfl)).symm.trans h2_) (by decide), Q_X6_, Q_X8_, Q_X9_, Q_X10_, fun _ => rfl, Q_X12_, fun h0_ => absurd ((hoff 13 (by kernel_rfl)).symm.trans h0_) (by decide)⟩
    refine steps_cons ?_ ?_
    · rintro b a w' ⟨v53_, v56_, g58_, v59_, a60_, b60_, m6_, m8_, m9_, m10_, m11_, m12_, m13_, ha, Q_HBr, Q_RO53, Q_RO56, Q_BL58, Q_RO59, Q_RA60, Q_NE56_58, Q_NE53_58, Q_X6_, Q_X8_, Q_X9_, Q_X10_, Q_X11_, Q_X12_, Q_X13_⟩ hb_ hon hoff
      refine ⟨_, rfl, fun K hK => ?_⟩
      have e61 : a.tmps[61]? = some (m10_) := by rw [ha]; exact putSel_on (e := (10, 61, m10_)) 10 rfl rfl (hon 10 (by kernel_rfl)) rfl
      rw [Q_X10_ (hon 10 (by kernel_rfl))] at e61
      replace ha := Aside0.mk ha
      have HBr := Aside0.mk Q_HBr
      have BL58 := Aside0.mk (Q_BL58 (hon 6 (by kernel_rfl)))
      have RO59 := Aside0.mk (Q_RO59 (hon 7 (by kernel_rfl)))
      have RA60 := Aside0.mk (Q_RA60 (hon 8 (by kernel_rfl)))
      refine value_ (w1 := w') (v := a60_) (by rfl) rfl ?_ ?_
      · go_simp
        (try simp only [i64_w])
        try rfl
      refine hK.out _ _ ⟨v53_, v56_, g58_, v59_, a60_, b60_, m6_, m8_, m9_, m10_, m11_, (a60_), m13_, (by rw [ha.out]; exact putSel_upk 12 hb_ rfl rfl rfl), Q_HBr, fun _ h1_ => absurd ((hon 4 (by kernel_rfl)).symm.trans h1_) (by decide), fun _ h1_ => absurd ((hon 7 (by kernel_rfl)).symm.trans h1_) (by decide), Q_BL58, Q_RO59, Q_RA60, fun _ _ h2_ => absurd ((hon 7 (by kernel_rfl)).symm.trans h2_) (by decide), fun _ _ h2_ => absurd ((hon 4 (by kernel_rfl)).symm.trans h2_) (by decide), Q_X6_, Q_X8_, Q_X9_, Q_X10_, Q_X11_, fun _ => rfl, fun h0_ => absurd ((hoff 13 (by kernel_rfl)).symm.trans h0_) (by decide)⟩
    refine steps_cons ?_ ?_
    · rintro b a w' ⟨v53_, v56_, g58_, v59_, a60_, b60_, m6_, m8_, m9_, m10_, m11_, m12_, m13_, ha, Q_HBr, Q_RO53, Q_RO56, Q_BL58, Q_RO59, Q_RA60, Q_NE56_58, Q_NE53_58, Q_X6_, Q_X8_, Q_X9_, Q_X10_, Q_X11_, Q_X12_, Q_X13_⟩ hb_ hon hoff
      refine ⟨_, rfl, fun K hK => ?_⟩
      have e62 : a.tmps[62]? = some (m11_) := by rw [ha]; exact putSel_on (e := (11, 62, m11_)) 11 rfl rfl (hon 11 (by kernel_rfl)) rfl
      rw [Q_X11_ (hon 11 (by kernel_rfl))] at e62
      replace ha := Aside0.mk ha
      have HBr := Aside0.mk Q_HBr
      have BL58 := Aside0.mk (Q_BL58 (hon 6 (by kernel_rfl)))
      have RO59 := Aside0.mk (Q_RO59 (hon 7 (by kernel_rfl)))
      have RA60 := Aside0.mk (Q_RA60 (hon 8 (by kernel_rfl)))
      refine value_ (w1 := w') (v := b60_) (by rfl) rfl ?_ ?_
      · go_simp
        (try simp only [i64_w])
        try rfl
      refine hK.out _ _ ⟨v53_, v56_, g58_, v59_, a60_, b60_, m6_, m8_, m9_, m10_, m11_, m12_, (b60_), (by rw [ha.out]; exact putSel_upk 13 hb_ rfl rfl rfl), Q_HBr, fun _ h1_ => absurd ((hon 4 (by kernel_rfl)).symm.trans h1_) (by decide), fun _ h1_ => absurd ((hon 7 (by kernel_rfl)).symm.trans h1_) (by decide), Q_BL58, Q_RO59, Q_RA60, fun _ _ h2_ => absurd ((hon 7 (by kernel_rfl)).symm.trans h2_) (by decide), fun _ _ h2_ => absurd ((hon 4 (by kernel_rfl)).symm.trans h2_) (by decide), Q_X6_, Q_X8_, Q_X9_, Q_X10_, Q_X11_, Q_X12_, fun _ => rfl⟩
    exact steps_nil
  rintro b a w' hall ⟨v53_, v56_, g58_, v59_, a60_, b60_, m6_, m8_, m9_, m10_, m11_, m12_, m13_, ha, Q_HBr, Q_RO53, Q_RO56, Q_BL58, Q_RO59, Q_RA60, Q_NE56_58, Q_NE53_58, Q_X6_, Q_X8_, Q_X9_, Q_X10_, Q_X11_, Q_X12_, Q_X13_⟩
  clear HBr
  have hb0_ := hall 0 (by kernel_rfl)
  have hb1_ := hall 1 (by kernel_rfl)
  have hb2_ := hall 2 (by kernel_rfl)
  have hb3_ := hall 3 (by kernel_rfl)
  have hb4_ := hall 4 (by kernel_rfl)
  have hb5_ := hall 5 (by kernel_rfl)
  have hb6_ := hall 6 (by kernel_rfl)
  have hb7_ := hall 7 (by kernel_rfl)
  have hb8_ := hall 8 (by kernel_rfl)
  have hb9_ := hall 9 (by kernel_rfl)
  have hb10_ := hall 10 (by kernel_rfl)
  have hb11_ := hall 11 (by kernel_rfl)
  have hb12_ := hall 12 (by kernel_rfl)
  have hb13_ := hall 13 (by kernel_rfl)
  subst ha
  obtain rfl := Q_X6_ hb6_
  obtain rfl := Q_X8_ hb8_
  obtain rfl := Q_X9_ hb9_
  obtain rfl := Q_X10_ hb10_
  obtain rfl := Q_X11_ hb11_
  obtain rfl := Q_X12_ hb12_
  obtain rfl := Q_X13_ hb13_
  simp only [putSel, hb0_, hb1_, hb2_, hb3_, hb4_, hb5_, hb6_, hb7_, hb8_, hb9_, hb10_, hb11_, hb12_, hb13_, if_true, Act.put, List.setIfInBounds_toArray, List.set_cons_zero, List.set_cons_succ]
  have HBr := Aside0.mk Q_HBr
  clear Q_HBr
  clear Q_RO53
  clear Q_RO56
  have BL58 := Aside0.mk (Q_BL58 hb6_)
  clear Q_BL58
  have RO59 := Aside0.mk (Q_RO59 hb7_)
  clear Q_RO59
  have RA60 := Aside0.mk (Q_RA60 hb8_)
  clear Q_RA60
  clear Q_NE56_58
  clear Q_NE53_58
  clear hall hb0_ hb1_ hb2_ hb3_ hb4_ hb5_ hb6_ hb7_ hb8_ hb9_ hb10_ hb11_ hb12_ hb13_
  obtain ⟨w6, rfl⟩ : ∃ z : World, z = w' := ⟨_, rfl⟩
  replace XN := Aside0.mk (blk_below HBr.out XN.out)
  replace XS := Aside0.mk (blk_below HBr.out XS.out)
  replace XK := Aside0.mk (blk_below HBr.out XK.out)
  replace XL := Aside0.mk (Sl_below XL.out HBr.out)
  replace RA36 := Aside0.mk (Sl_below RA36.out HBr.out)
  replace RA48 := Aside0.mk (Sl_below RA48.out HBr.out)
  replace HB := Aside0.mk (below_step HB.out HBr.out)
  clear HBr
  try clear HT_ HW_ hHeld
  have ra := RA36.out
  rw [guard_slots] at ra
  obtain ⟨A1, c1, rfl, _, _⟩ := ra
  clear RA36
  obtain ⟨A2, c2, rfl, _, _⟩ := RA48.out
  obtain ⟨A3, c3, rfl, _, _⟩ := RA60.out
  clear RA48 RA60
  obtain ⟨lb, hlb⟩ : ∃ z : List S39, z = [n].filter fun x => !erB (k.f1 ++ [era]) x := ⟨_, rfl⟩
  obtain ⟨lc, hlc⟩ : ∃ z : List S39, z = [n].filter fun x => !spB (k.f2 ++ [s]) x := ⟨_, rfl⟩
  rw [← hlb, ← hlc]
  have hE : 0 < era → n.f1 ≤ era → era ≤ n.f2 → lb.length = 0 := fun h1 h2 h3 => by rw [hlb, guard_eras n k.f1 era h1 h2 h3]; rfl
  have hS : s.f0 = true → s.f1 ≤ n.f2 → n.f1 ≤ s.f2 → lc.length = 0 := fun h1 h2 h3 => by rw [hlc, guard_spans n k.f2 s h1 h2 h3]; rfl
  clear hlb hlc K1 K2 K3 XL hk1 hk2 hk3 XK
  have x_XN0 : w6.cell? ⟨w.heap.size, 0, none⟩ = some (.int .i64 n.f0.f0) := (blk_cell XN.out 0).trans rfl
  have x_XN1 : w6.cell? ⟨w.heap.size, 1, none⟩ = some (.int .i64 n.f0.f1) := (blk_cell XN.out 1).trans rfl
  have x_XN2 : w6.cell? ⟨w.heap.size, 2, none⟩ = some (.int .i64 n.f0.f2) := (blk_cell XN.out 2).trans rfl
  have x_XN3 : w6.cell? ⟨w.heap.size, 3, none⟩ = some (.int .i64 n.f0.f3) := (blk_cell XN.out 3).trans rfl
  have x_XN4 : w6.cell? ⟨w.heap.size, 4, none⟩ = some (.bool n.f0.f4) := (blk_cell XN.out 4).trans rfl
  have x_XN5 : w6.cell? ⟨w.heap.size, 5, none⟩ = some (.int .i64 n.f1) := (blk_cell XN.out 5).trans rfl
  have x_XN6 : w6.cell? ⟨w.heap.size, 6, none⟩ = some (.int .i64 n.f2) := (blk_cell XN.out 6).trans rfl
  have x_XS0 : w6.cell? ⟨w.heap.size + 1, 0, none⟩ = some (.bool s.f0) := (blk_cell XS.out 0).trans rfl
  have x_XS1 : w6.cell? ⟨w.heap.size + 1, 1, none⟩ = some (.int .i64 s.f1) := (blk_cell XS.out 1).trans rfl
  have x_XS2 : w6.cell? ⟨w.heap.size + 1, 2, none⟩ = some (.int .i64 s.f2) := (blk_cell XS.out 2).trans rfl
  clear XN XS
  obtain hs | hs : s.f0 = true ∨ s.f0 = false := by cases s.f0 <;> simp
  · replace hS := hS hs
    rw [hs] at x_XS0
    clear hs
    go_wp2
    all_goals
      go_ret
      first | exact ⟨rfl, HB.out⟩ | (exfalso; omega) | (have hz : lc.length = 0 := hS (by omega) (by omega); obtain rfl : lc = [] := List.length_eq_zero_iff.1 hz; first | exact ⟨rfl, HB.out⟩ | exact ⟨ret_bool (by simp), HB.out⟩)
  · clear hS
    rw [hs] at x_XS0
    clear hs
    go_wp2
    all_goals
      go_ret
      first | exact ⟨rfl, HB.out⟩ | (exfalso; omega)
end Go.Proofs.Ytcnhjbpgjemnhaa.Sv
