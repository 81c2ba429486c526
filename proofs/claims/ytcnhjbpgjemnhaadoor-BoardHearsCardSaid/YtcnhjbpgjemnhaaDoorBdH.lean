/- BoardHears: the walk. -/
import Derived.Test.YtcnhjbpgjemnhaaDoorBdG
import Derived.Test.YtcnhjbpgjemnhaaDoorWInvWords
namespace Go.Proofs.YtcnhjbpgjemnhaaDoor.Bd
open Go.RowKit Go.Proofs.YtcnhjbpgjemnhaaDoorW.PrintWords Go.Proofs.YtcnhjbpgjemnhaaDoorW.PrintLast Go.Proofs.YtcnhjbpgjemnhaaDoorW.PrintMore Go.Proofs.YtcnhjbpgjemnhaaDoor.X
set_option linter.unusedVariables false
set_option linter.unusedSimpArgs false
attribute [local go_sem high] eqA25 eqA48 eqA50

def hears.T7 : Bool × List (List Nat × List Nat) := (true, [([], []), ([0], [0]), ([], []), ([1, 2], [1, 2]), ([3, 1], [3]), ([4], [4]), ([5, 4], [4, 5]), ([6, 4, 4], [4, 6]), ([7], [7]), ([7], [7]), ([8, 9, 7], [7, 8, 9]), ([7], [7]), ([7], [7]), ([11, 12, 7], [7, 11, 12]), ([10, 13, 7], [7, 10, 13]), ([7, 14, 4], [4, 7, 14]), ([4, 15], [4, 15]), ([16, 7, 0, 1, 2, 3, 4, 5, 6, 7, 8, 9, 10, 11, 12, 13, 14, 15, 16], [16])])
def hears.B7 : List Nat := [0, 1, 0, 7, 15, 31, 63, 127, 255, 255, 1023, 255, 255, 6399, 16383, 32767, 65535, 131071]
theorem hears.tab7 : rtab .any (opsOf Tryd.f7 7) = hears.T7 := by kernel_rfl
theorem hears.bits7 : waitsOk hears.T7.2 hears.B7 = true := by kernel_rfl
set_option maxHeartbeats 2000000 in
set_option maxRecDepth 100000 in
theorem hears_walk (s t : S48) (aA : Addr) (w : World) (hA : w.cell? gArg = some (Sent aA)) : Calls Tryd.prog 7 #[.agg #[.bool s.f0, .int .i64 s.f1, .int .i64 s.f2], .agg #[.bool t.f0, .int .i64 t.f1, .int .i64 t.f2]] w fun e w' => e = .returned (.bool true) ∧ Below w.heap.size w w' := by
  have hu := Tryd.underlying50
  have hu2 := Tryd.underlying48
  obtain ⟨oS, hoS⟩ : ∃ o : Obj, o = o48 s := ⟨_, rfl⟩
  obtain ⟨oT, hoT⟩ : ∃ o : Obj, o = o48 t := ⟨_, rfl⟩
  have hb0 := below_alloc (below_alloc (Below.refl w.heap.size w) oS) oT
  have y1 : ((w.alloc oS).alloc oT).heap[w.heap.size]? = some oS := blk_alloc (blk_new _ _) _
  have y2 : ((w.alloc oS).alloc oT).heap[w.heap.size + 1]? = some oT := by simpa using blk_new (w.alloc oS) oT
  rw [hoS, hoT] at y1 y2 hb0
  have hA1 := pw_cell_below hb0 hA
  have HB0 := Aside0.mk hb0
  clear hb0
  have Y1 := Aside0.mk y1
  clear y1
  have Y2 := Aside0.mk y2
  clear y2
  clear hoS hoT oS oT
  go_enter Tryd.func7, Tryd.ntmps7
  go_wp2_with fail
  refine (awake_c aA _ hA1).mono ?_
  rintro e w1 ⟨rfl, hb1⟩
  have XS := Aside0.mk (blk_below hb1 Y1.out)
  have XT := Aside0.mk (blk_below hb1 Y2.out)
  have HB := Aside0.mk (below_step HB0.out hb1)
  clear hb1 HB0 Y1 Y2 hA1
  have x0 : w1.cell? ⟨w.heap.size, 0, none⟩ = some (.bool s.f0) := (blk_cell XS.out 0).trans rfl
  have x1 : w1.cell? ⟨w.heap.size, 1, none⟩ = some (.int .i64 s.f1) := (blk_cell XS.out 1).trans rfl
  have x2 : w1.cell? ⟨w.heap.size, 2, none⟩ = some (.int .i64 s.f2) := (blk_cell XS.out 2).trans rfl
  go_wp2_with fail
  refine (say_s s aA _ (pw_cell_below HB.out hA)).mono ?_
  rintro e w2 ⟨x, v, rfl, hs, hb2⟩
  clear x0 x1 x2
  replace XS := Aside0.mk (blk_below hb2 XS.out)
  replace XT := Aside0.mk (blk_below hb2 XT.out)
  replace HB := Aside0.mk (below_step HB.out hb2)
  clear hb2
  have x0 : (w2.alloc (o50 x)).cell? ⟨w.heap.size + 1, 0, none⟩ = some (.bool t.f0) := (blk_cell (blk_alloc XT.out _) 0).trans rfl
  have x1 : (w2.alloc (o50 x)).cell? ⟨w.heap.size + 1, 1, none⟩ = some (.int .i64 t.f1) := (blk_cell (blk_alloc XT.out _) 1).trans rfl
  have x2 : (w2.alloc (o50 x)).cell? ⟨w.heap.size + 1, 2, none⟩ = some (.int .i64 t.f2) := (blk_cell (blk_alloc XT.out _) 2).trans rfl
  go_wp2_with fail
  refine (say_s t aA _ (pw_cell_below (below_alloc HB.out _) hA)).mono ?_
  rintro e w3 ⟨y, u, rfl, ht, hb3⟩
  clear x0 x1 x2
  have XX := Aside0.mk (blk_alloc (blk_below hb3 (blk_new w2 (o50 x))) (o50 y))
  have XY := Aside0.mk (blk_new w3 (o50 y))
  replace XS := Aside0.mk (blk_alloc (blk_below hb3 (blk_alloc XS.out _)) (o50 y))
  replace XT := Aside0.mk (blk_alloc (blk_below hb3 (blk_alloc XT.out _)) (o50 y))
  replace hs := Said_below (Said_below (Said_below hs (below_alloc (Below.refl _ _) (o50 x))) hb3) (below_alloc (Below.refl _ _) (o50 y))
  replace ht := Said_below ht (below_alloc (Below.refl _ _) (o50 y))
  replace HB := Aside0.mk (below_alloc (below_step (below_alloc HB.out _) hb3) (o50 y))
  clear hb3
  rcases hs with ⟨hok, hxs, rfl⟩ | ⟨hno, rfl, hv⟩
  · skip
    have HX : Aside0 (hearF x = s) := ⟨by rw [hxs]; exact hear_say s hok⟩
    rcases ht with ⟨hokt, hyt, rfl⟩ | ⟨hnot, hy0, gv, pv, rfl, hgv⟩
    · by_cases hst : s = t
      · skip
        have hq1 : eqB50 x y = true := (eqB50_iff _ _).2 (by rw [hxs, hyt, hst])
        have hq2 : eqB48 s t = true := (eqB48_iff _ _).2 hst
        simp only [eqB50] at hq1
        simp only [eqB48] at hq2
        clear hxs hyt hok hokt hst
        go_wp2
        refine start_ (n := 18) (S := fun w' => True) (ds := []) #[false, false, false, false, false, false, false, false, false, false, false, false, false, false, false, false, false, false] (by kernel_rfl) rfl rfl trivial (fun hHeld => ?_)
        refine with_tabW hears.tab7 hears.bits7 (fun HT_ HW_ => ?_)
        have HBr := Aside0.mk (below_drew1 (Below.refl (w3.alloc (o50 y)).heap.size (w3.alloc (o50 y))))
        refine inv_at [0, 1, 2, 3, 4, 5, 6, 7, 8, 9, 10, 11, 12, 13, 14, 15, 16, 17] (fun a0_ b a w' => a = putSel a0_ b [(0, 26, .agg #[.int .i64 x.f0, .int .i64 x.f1, .int .i64 x.f2, .int .i64 x.f3, .bool x.f4]), (1, 27, .agg #[.bool s.f0, .int .i64 s.f1, .int .i64 s.f2]), (2, 28, .agg #[.bool s.f0, .int .i64 s.f1, .int .i64 s.f2]), (3, 29, .bool true), (4, 30, .bool true), (5, 31, .nilIface), (6, 32, .bool false), (7, 33, .bool false), (8, 34, .agg #[.int .i64 x.f0, .int .i64 x.f1, .int .i64 x.f2, .int .i64 x.f3, .bool x.f4]), (9, 35, .agg #[.int .i64 y.f0, .int .i64 y.f1, .int .i64 y.f2, .int .i64 y.f3, .bool y.f4]), (10, 36, .bool true), (11, 37, .agg #[.bool s.f0, .int .i64 s.f1, .int .i64 s.f2]), (12, 38, .agg #[.bool t.f0, .int .i64 t.f1, .int .i64 t.f2]), (13, 39, .bool true), (14, 40, .bool true), (15, 41, .bool true), (16, 42, .bool true), (17, 4, .bool true)] ∧ (Below (w3.alloc (o50 y)).heap.size (w3.alloc (o50 y)) w')) HT_.out HW_.out (by kernel_rfl) (by kernel_rfl) ?_ ?_ ?_
        · exact ⟨by simp only [putSel, Bool.false_eq_true, if_false], HBr.out⟩
        · skip
          clear HBr
          refine steps_cons ?_ ?_
          · rintro b a w' ⟨ha, Q_HBr⟩ hb_ hon hoff
            refine ⟨_, rfl, fun K hK => ?_⟩
            have e5 : a.tmps[5]? = some (.pointer (some ⟨w2.heap.size, 0, none⟩)) := by rw [ha]; exact (putSel_off rfl).trans rfl
            replace ha := Aside0.mk ha
            have HBr := Aside0.mk Q_HBr
            have z0_ : w'.cell? ⟨w2.heap.size, 0, none⟩ = some (.int .i64 x.f0) := (blk_cell (blk_below HBr.out XX.out) 0).trans rfl
            have z1_ : w'.cell? ⟨w2.heap.size, 1, none⟩ = some (.int .i64 x.f1) := (blk_cell (blk_below HBr.out XX.out) 1).trans rfl
            have z2_ : w'.cell? ⟨w2.heap.size, 2, none⟩ = some (.int .i64 x.f2) := (blk_cell (blk_below HBr.out XX.out) 2).trans rfl
            have z3_ : w'.cell? ⟨w2.heap.size, 3, none⟩ = some (.int .i64 x.f3) := (blk_cell (blk_below HBr.out XX.out) 3).trans rfl
            have z4_ : w'.cell? ⟨w2.heap.size, 4, none⟩ = some (.bool x.f4) := (blk_cell (blk_below HBr.out XX.out) 4).trans rfl
            refine value_ (w1 := w') (v := .agg #[.int .i64 x.f0, .int .i64 x.f1, .int .i64 x.f2, .int .i64 x.f3, .bool x.f4]) (by rfl) rfl ?_ ?_
            · go_simp
              (try simp only [i64_w])
              try rfl
            refine hK.out _ _ ⟨(by rw [ha.out]; exact putSel_upk 0 hb_ rfl rfl rfl), Q_HBr⟩
          refine steps_cons ?_ ?_
          · rintro b a w' ⟨ha, Q_HBr⟩ hb_ hon hoff
            refine ⟨_, rfl, fun K hK => ?_⟩
            have e26 : a.tmps[26]? = some (.agg #[.int .i64 x.f0, .int .i64 x.f1, .int .i64 x.f2, .int .i64 x.f3, .bool x.f4]) := by rw [ha]; exact putSel_on (e := (0, 26, .agg #[.int .i64 x.f0, .int .i64 x.f1, .int .i64 x.f2, .int .i64 x.f3, .bool x.f4])) 0 rfl rfl (hon 0 (by kernel_rfl)) rfl
            replace ha := Aside0.mk ha
            have HBr := Aside0.mk Q_HBr
            refine goes_ Tryd.func24 (by kernel_rfl) rfl #[.agg #[.int .i64 x.f0, .int .i64 x.f1, .int .i64 x.f2, .int .i64 x.f3, .bool x.f4]] (by rfl) rfl rfl (by first | (simp only [List.map_toArray, List.map_cons, List.map_nil, Act.eval, Array.getD_eq_getD_getElem?, Option.getD_some, e26]; done) | (simp only [List.map_toArray, List.map_cons, List.map_nil, Act.eval, Array.getD_eq_getD_getElem?, Option.getD_some, e26]; rfl)) ?_
            refine ((show Calls _ _ _ w' fun e w1 => e = .returned (v48 s) ∧ Below w'.heap.size w' w1 from by have h_ := hear_c x w'; rw [HX.out] at h_; exact h_)).mono ?_
            rintro e w1 ⟨rfl, hb1⟩
            refine ⟨_, rfl, ?_⟩
            refine hK.out _ _ ⟨(by rw [ha.out]; exact putSel_upk 1 hb_ rfl rfl rfl), below_step HBr.out hb1⟩
          refine steps_cons ?_ ?_
          · rintro b a w' ⟨ha, Q_HBr⟩ hb_ hon hoff
            refine ⟨_, rfl, fun K hK => ?_⟩
            have e2 : a.tmps[2]? = some (.pointer (some ⟨w.heap.size, 0, none⟩)) := by rw [ha]; exact (putSel_off rfl).trans rfl
            replace ha := Aside0.mk ha
            have HBr := Aside0.mk Q_HBr
            have z0_ : w'.cell? ⟨w.heap.size, 0, none⟩ = some (.bool s.f0) := (blk_cell (blk_below HBr.out XS.out) 0).trans rfl
            have z1_ : w'.cell? ⟨w.heap.size, 1, none⟩ = some (.int .i64 s.f1) := (blk_cell (blk_below HBr.out XS.out) 1).trans rfl
            have z2_ : w'.cell? ⟨w.heap.size, 2, none⟩ = some (.int .i64 s.f2) := (blk_cell (blk_below HBr.out XS.out) 2).trans rfl
            refine value_ (w1 := w') (v := .agg #[.bool s.f0, .int .i64 s.f1, .int .i64 s.f2]) (by rfl) rfl ?_ ?_
            · go_simp
              (try simp only [i64_w])
              try rfl
            refine hK.out _ _ ⟨(by rw [ha.out]; exact putSel_upk 2 hb_ rfl rfl rfl), Q_HBr⟩
          refine steps_cons ?_ ?_
          · rintro b a w' ⟨ha, Q_HBr⟩ hb_ hon hoff
            refine ⟨_, rfl, fun K hK => ?_⟩
            have e27 : a.tmps[27]? = some (.agg #[.bool s.f0, .int .i64 s.f1, .int .i64 s.f2]) := by rw [ha]; exact putSel_on (e := (1, 27, .agg #[.bool s.f0, .int .i64 s.f1, .int .i64 s.f2])) 1 rfl rfl (hon 1 (by kernel_rfl)) rfl
            have e28 : a.tmps[28]? = some (.agg #[.bool s.f0, .int .i64 s.f1, .int .i64 s.f2]) := by rw [ha]; exact putSel_on (e := (2, 28, .agg #[.bool s.f0, .int .i64 s.f1, .int .i64 s.f2])) 2 rfl rfl (hon 2 (by kernel_rfl)) rfl
            replace ha := Aside0.mk ha
            have HBr := Aside0.mk Q_HBr
            refine value_ (w1 := w') (v := .bool true) (by rfl) rfl ?_ ?_
            · go_simp
              (try simp only [i64_w])
              try rfl
            refine hK.out _ _ ⟨(by rw [ha.out]; exact putSel_upk 3 hb_ rfl rfl rfl), Q_HBr⟩
          refine steps_cons ?_ ?_
          · rintro b a w' ⟨ha, Q_HBr⟩ hb_ hon hoff
            refine ⟨_, rfl, fun K hK => ?_⟩
            have e29 : a.tmps[29]? = some (.bool true) := by rw [ha]; exact putSel_on (e := (3, 29, .bool true)) 3 rfl rfl (hon 3 (by kernel_rfl)) rfl
            replace ha := Aside0.mk ha
            have HBr := Aside0.mk Q_HBr
            refine value_ (w1 := w') (v := .bool true) (by rfl) rfl ?_ ?_
            · go_simp
              (try simp only [i64_w])
              try rfl
            refine hK.out _ _ ⟨(by rw [ha.out]; exact putSel_upk 4 hb_ rfl rfl rfl), Q_HBr⟩
          refine steps_cons ?_ ?_
          · rintro b a w' ⟨ha, Q_HBr⟩ hb_ hon hoff
            refine ⟨_, rfl, fun K hK => ?_⟩
            have e8 : a.tmps[8]? = some (.nilIface) := by rw [ha]; exact (putSel_off rfl).trans rfl
            have e30 : a.tmps[30]? = some (.bool true) := by rw [ha]; exact putSel_on (e := (4, 30, .bool true)) 4 rfl rfl (hon 4 (by kernel_rfl)) rfl
            replace ha := Aside0.mk ha
            have HBr := Aside0.mk Q_HBr
            refine value_ (w1 := w') (v := .nilIface) (wanted_on rfl rfl rfl (e30.trans (by first | rfl | (simp [*]; done)))) rfl ?_ ?_
            · go_simp
              (try simp only [i64_w])
              try rfl
            refine hK.out _ _ ⟨(by rw [ha.out]; exact putSel_upk 5 hb_ rfl rfl rfl), Q_HBr⟩
          refine steps_cons ?_ ?_
          · rintro b a w' ⟨ha, Q_HBr⟩ hb_ hon hoff
            refine ⟨_, rfl, fun K hK => ?_⟩
            have e31 : a.tmps[31]? = some (.nilIface) := by rw [ha]; exact putSel_on (e := (5, 31, .nilIface)) 5 rfl rfl (hon 5 (by kernel_rfl)) rfl
            have e30 : a.tmps[30]? = some (.bool true) := by rw [ha]; exact putSel_on (e := (4, 30, .bool true)) 4 rfl rfl (hon 4 (by kernel_rfl)) rfl
            replace ha := Aside0.mk ha
            have HBr := Aside0.mk Q_HBr
            refine value_ (w1 := w') (v := .bool false) (wanted_on rfl rfl rfl (e30.trans (by first | rfl | (simp [*]; done)))) rfl ?_ ?_
            · go_simp
              (try simp only [i64_w])
              try rfl
            refine hK.out _ _ ⟨(by rw [ha.out]; exact putSel_upk 6 hb_ rfl rfl rfl), Q_HBr⟩
          refine steps_cons ?_ ?_
          · rintro b a w' ⟨ha, Q_HBr⟩ hb_ hon hoff
            refine ⟨_, rfl, fun K hK => ?_⟩
            have e32 : a.tmps[32]? = some (.bool false) := by rw [ha]; exact putSel_on (e := (6, 32, .bool false)) 6 rfl rfl (hon 6 (by kernel_rfl)) rfl
            have e30 : a.tmps[30]? = some (.bool true) := by rw [ha]; exact putSel_on (e := (4, 30, .bool true)) 4 rfl rfl (hon 4 (by kernel_rfl)) rfl
            replace ha := Aside0.mk ha
            have HBr := Aside0.mk Q_HBr
            refine value_ (w1 := w') (v := .bool false) (wanted_on rfl rfl rfl (e30.trans (by first | rfl | (simp [*]; done)))) rfl ?_ ?_
            · go_simp
              (try simp only [i64_w])
              try rfl
            refine hK.out _ _ ⟨(by rw [ha.out]; exact putSel_upk 7 hb_ rfl rfl rfl), Q_HBr⟩
          refine steps_cons ?_ ?_
          · rintro b a w' ⟨ha, Q_HBr⟩ hb_ hon hoff
            refine ⟨_, rfl, fun K hK => ?_⟩
            have e5 : a.tmps[5]? = some (.pointer (some ⟨w2.heap.size, 0, none⟩)) := by rw [ha]; exact (putSel_off rfl).trans rfl
            have e33 : a.tmps[33]? = some (.bool false) := by rw [ha]; exact putSel_on (e := (7, 33, .bool false)) 7 rfl rfl (hon 7 (by kernel_rfl)) rfl
            replace ha := Aside0.mk ha
            have HBr := Aside0.mk Q_HBr
            have z0_ : w'.cell? ⟨w2.heap.size, 0, none⟩ = some (.int .i64 x.f0) := (blk_cell (blk_below HBr.out XX.out) 0).trans rfl
            have z1_ : w'.cell? ⟨w2.heap.size, 1, none⟩ = some (.int .i64 x.f1) := (blk_cell (blk_below HBr.out XX.out) 1).trans rfl
            have z2_ : w'.cell? ⟨w2.heap.size, 2, none⟩ = some (.int .i64 x.f2) := (blk_cell (blk_below HBr.out XX.out) 2).trans rfl
            have z3_ : w'.cell? ⟨w2.heap.size, 3, none⟩ = some (.int .i64 x.f3) := (blk_cell (blk_below HBr.out XX.out) 3).trans rfl
            have z4_ : w'.cell? ⟨w2.heap.size, 4, none⟩ = some (.bool x.f4) := (blk_cell (blk_below HBr.out XX.out) 4).trans rfl
            refine value_ (w1 := w') (v := .agg #[.int .i64 x.f0, .int .i64 x.f1, .int .i64 x.f2, .int .i64 x.f3, .bool x.f4]) (wanted_on rfl rfl rfl (e33.trans (by first | rfl | (simp [*]; done)))) rfl ?_ ?_
            · go_simp
              (try simp only [i64_w])
              try rfl
            refine hK.out _ _ ⟨(by rw [ha.out]; exact putSel_upk 8 hb_ rfl rfl rfl), Q_HBr⟩
          refine steps_cons ?_ ?_
          · rintro b a w' ⟨ha, Q_HBr⟩ hb_ hon hoff
            refine ⟨_, rfl, fun K hK => ?_⟩
            have e7 : a.tmps[7]? = some (.pointer (some ⟨w3.heap.size, 0, none⟩)) := by rw [ha]; exact (putSel_off rfl).trans rfl
            have e33 : a.tmps[33]? = some (.bool false) := by rw [ha]; exact putSel_on (e := (7, 33, .bool false)) 7 rfl rfl (hon 7 (by kernel_rfl)) rfl
            replace ha := Aside0.mk ha
            have HBr := Aside0.mk Q_HBr
            have z0_ : w'.cell? ⟨w3.heap.size, 0, none⟩ = some (.int .i64 y.f0) := (blk_cell (blk_below HBr.out XY.out) 0).trans rfl
            have z1_ : w'.cell? ⟨w3.heap.size, 1, none⟩ = some (.int .i64 y.f1) := (blk_cell (blk_below HBr.out XY.out) 1).trans rfl
            have z2_ : w'.cell? ⟨w3.heap.size, 2, none⟩ = some (.int .i64 y.f2) := (blk_cell (blk_below HBr.out XY.out) 2).trans rfl
            have z3_ : w'.cell? ⟨w3.heap.size, 3, none⟩ = some (.int .i64 y.f3) := (blk_cell (blk_below HBr.out XY.out) 3).trans rfl
            have z4_ : w'.cell? ⟨w3.heap.size, 4, none⟩ = some (.bool y.f4) := (blk_cell (blk_below HBr.out XY.out) 4).trans rfl
            refine value_ (w1 := w') (v := .agg #[.int .i64 y.f0, .int .i64 y.f1, .int .i64 y.f2, .int .i64 y.f3, .bool y.f4]) (wanted_on rfl rfl rfl (e33.trans (by first | rfl | (simp [*]; done)))) rfl ?_ ?_
            · go_simp
              (try simp only [i64_w])
              try rfl
            refine hK.out _ _ ⟨(by rw [ha.out]; exact putSel_upk 9 hb_ rfl rfl rfl), Q_HBr⟩
          refine steps_cons ?_ ?_
          · rintro b a w' ⟨ha, Q_HBr⟩ hb_ hon hoff
            refine ⟨_, rfl, fun K hK => ?_⟩
            have e34 : a.tmps[34]? = some (.agg #[.int .i64 x.f0, .int .i64 x.f1, .int .i64 x.f2, .int .i64 x.f3, .bool x.f4]) := by rw [ha]; exact putSel_on (e := (8, 34, .agg #[.int .i64 x.f0, .int .i64 x.f1, .int .i64 x.f2, .int .i64 x.f3, .bool x.f4])) 8 rfl rfl (hon 8 (by kernel_rfl)) rfl
            have e35 : a.tmps[35]? = some (.agg #[.int .i64 y.f0, .int .i64 y.f1, .int .i64 y.f2, .int .i64 y.f3, .bool y.f4]) := by rw [ha]; exact putSel_on (e := (9, 35, .agg #[.int .i64 y.f0, .int .i64 y.f1, .int .i64 y.f2, .int .i64 y.f3, .bool y.f4])) 9 rfl rfl (hon 9 (by kernel_rfl)) rfl
            have e33 : a.tmps[33]? = some (.bool false) := by rw [ha]; exact putSel_on (e := (7, 33, .bool false)) 7 rfl rfl (hon 7 (by kernel_rfl)) rfl
            replace ha := Aside0.mk ha
            have HBr := Aside0.mk Q_HBr
            refine value_ (w1 := w') (v := .bool true) (wanted_on rfl rfl rfl (e33.trans (by first | rfl | (simp [*]; done)))) rfl ?_ ?_
            · go_simp
              (try simp only [i64_w])
              try rfl
            refine hK.out _ _ ⟨(by rw [ha.out]; exact putSel_upk 10 hb_ rfl rfl rfl), Q_HBr⟩
          refine steps_cons ?_ ?_
          · rintro b a w' ⟨ha, Q_HBr⟩ hb_ hon hoff
            refine ⟨_, rfl, fun K hK => ?_⟩
            have e2 : a.tmps[2]? = some (.pointer (some ⟨w.heap.size, 0, none⟩)) := by rw [ha]; exact (putSel_off rfl).trans rfl
            have e33 : a.tmps[33]? = some (.bool false) := by rw [ha]; exact putSel_on (e := (7, 33, .bool false)) 7 rfl rfl (hon 7 (by kernel_rfl)) rfl
            replace ha := Aside0.mk ha
            have HBr := Aside0.mk Q_HBr
            have z0_ : w'.cell? ⟨w.heap.size, 0, none⟩ = some (.bool s.f0) := (blk_cell (blk_below HBr.out XS.out) 0).trans rfl
            have z1_ : w'.cell? ⟨w.heap.size, 1, none⟩ = some (.int .i64 s.f1) := (blk_cell (blk_below HBr.out XS.out) 1).trans rfl
            have z2_ : w'.cell? ⟨w.heap.size, 2, none⟩ = some (.int .i64 s.f2) := (blk_cell (blk_below HBr.out XS.out) 2).trans rfl
            refine value_ (w1 := w') (v := .agg #[.bool s.f0, .int .i64 s.f1, .int .i64 s.f2]) (wanted_on rfl rfl rfl (e33.trans (by first | rfl | (simp [*]; done)))) rfl ?_ ?_
            · go_simp
              (try simp only [i64_w])
              try rfl
            refine hK.out _ _ ⟨(by rw [ha.out]; exact putSel_upk 11 hb_ rfl rfl rfl), Q_HBr⟩
          refine steps_cons ?_ ?_
          · rintro b a w' ⟨ha, Q_HBr⟩ hb_ hon hoff
            refine ⟨_, rfl, fun K hK => ?_⟩
            have e3 : a.tmps[3]? = some (.pointer (some ⟨w.heap.size + 1, 0, none⟩)) := by rw [ha]; exact (putSel_off rfl).trans rfl
            have e33 : a.tmps[33]? = some (.bool false) := by rw [ha]; exact putSel_on (e := (7, 33, .bool false)) 7 rfl rfl (hon 7 (by kernel_rfl)) rfl
            replace ha := Aside0.mk ha
            have HBr := Aside0.mk Q_HBr
            have z0_ : w'.cell? ⟨w.heap.size + 1, 0, none⟩ = some (.bool t.f0) := (blk_cell (blk_below HBr.out XT.out) 0).trans rfl
            have z1_ : w'.cell? ⟨w.heap.size + 1, 1, none⟩ = some (.int .i64 t.f1) := (blk_cell (blk_below HBr.out XT.out) 1).trans rfl
            have z2_ : w'.cell? ⟨w.heap.size + 1, 2, none⟩ = some (.int .i64 t.f2) := (blk_cell (blk_below HBr.out XT.out) 2).trans rfl
            refine value_ (w1 := w') (v := .agg #[.bool t.f0, .int .i64 t.f1, .int .i64 t.f2]) (wanted_on rfl rfl rfl (e33.trans (by first | rfl | (simp [*]; done)))) rfl ?_ ?_
            · go_simp
              (try simp only [i64_w])
              try rfl
            refine hK.out _ _ ⟨(by rw [ha.out]; exact putSel_upk 12 hb_ rfl rfl rfl), Q_HBr⟩
          refine steps_cons ?_ ?_
          · rintro b a w' ⟨ha, Q_HBr⟩ hb_ hon hoff
            refine ⟨_, rfl, fun K hK => ?_⟩
            have e37 : a.tmps[37]? = some (.agg #[.bool s.f0, .int .i64 s.f1, .int .i64 s.f2]) := by rw [ha]; exact putSel_on (e := (11, 37, .agg #[.bool s.f0, .int .i64 s.f1, .int .i64 s.f2])) 11 rfl rfl (hon 11 (by kernel_rfl)) rfl
            have e38 : a.tmps[38]? = some (.agg #[.bool t.f0, .int .i64 t.f1, .int .i64 t.f2]) := by rw [ha]; exact putSel_on (e := (12, 38, .agg #[.bool t.f0, .int .i64 t.f1, .int .i64 t.f2])) 12 rfl rfl (hon 12 (by kernel_rfl)) rfl
            have e33 : a.tmps[33]? = some (.bool false) := by rw [ha]; exact putSel_on (e := (7, 33, .bool false)) 7 rfl rfl (hon 7 (by kernel_rfl)) rfl
            replace ha := Aside0.mk ha
            have HBr := Aside0.mk Q_HBr
            refine value_ (w1 := w') (v := .bool true) (wanted_on rfl rfl rfl (e33.trans (by first | rfl | (simp [*]; done)))) rfl ?_ ?_
            · go_simp
              (try simp only [i64_w])
              try rfl
            refine hK.out _ _ ⟨(by rw [ha.out]; exact putSel_upk 13 hb_ rfl rfl rfl), Q_HBr⟩
          refine steps_cons ?_ ?_
          · rintro b a w' ⟨ha, Q_HBr⟩ hb_ hon hoff
            refine ⟨_, rfl, fun K hK => ?_⟩
            have e36 : a.tmps[36]? = some (.bool true) := by rw [ha]; exact putSel_on (e := (10, 36, .bool true)) 10 rfl rfl (hon 10 (by kernel_rfl)) rfl
            have e39 : a.tmps[39]? = some (.bool true) := by rw [ha]; exact putSel_on (e := (13, 39, .bool true)) 13 rfl rfl (hon 13 (by kernel_rfl)) rfl
            have e33 : a.tmps[33]? = some (.bool false) := by rw [ha]; exact putSel_on (e := (7, 33, .bool false)) 7 rfl rfl (hon 7 (by kernel_rfl)) rfl
            replace ha := Aside0.mk ha
            have HBr := Aside0.mk Q_HBr
            refine value_ (w1 := w') (v := .bool true) (wanted_on rfl rfl rfl (e33.trans (by first | rfl | (simp [*]; done)))) rfl ?_ ?_
            · go_simp
              (try simp only [i64_w])
              try rfl
            refine hK.out _ _ ⟨(by rw [ha.out]; exact putSel_upk 14 hb_ rfl rfl rfl), Q_HBr⟩
          refine steps_cons ?_ ?_
          · rintro b a w' ⟨ha, Q_HBr⟩ hb_ hon hoff
            refine ⟨_, rfl, fun K hK => ?_⟩
            have e33 : a.tmps[33]? = some (.bool false) := by rw [ha]; exact putSel_on (e := (7, 33, .bool false)) 7 rfl rfl (hon 7 (by kernel_rfl)) rfl
            have e40 : a.tmps[40]? = some (.bool true) := by rw [ha]; exact putSel_on (e := (14, 40, .bool true)) 14 rfl rfl (hon 14 (by kernel_rfl)) rfl
            have e30 : a.tmps[30]? = some (.bool true) := by rw [ha]; exact putSel_on (e := (4, 30, .bool true)) 4 rfl rfl (hon 4 (by kernel_rfl)) rfl
            replace ha := Aside0.mk ha
            have HBr := Aside0.mk Q_HBr
            refine value_ (w1 := w') (v := .bool true) (wanted_on rfl rfl rfl (e30.trans (by first | rfl | (simp [*]; done)))) rfl ?_ ?_
            · go_simp
              (try simp only [i64_w])
              try rfl
            refine hK.out _ _ ⟨(by rw [ha.out]; exact putSel_upk 15 hb_ rfl rfl rfl), Q_HBr⟩
          refine steps_cons ?_ ?_
          · rintro b a w' ⟨ha, Q_HBr⟩ hb_ hon hoff
            refine ⟨_, rfl, fun K hK => ?_⟩
            have e30 : a.tmps[30]? = some (.bool true) := by rw [ha]; exact putSel_on (e := (4, 30, .bool true)) 4 rfl rfl (hon 4 (by kernel_rfl)) rfl
            have e41 : a.tmps[41]? = some (.bool true) := by rw [ha]; exact putSel_on (e := (15, 41, .bool true)) 15 rfl rfl (hon 15 (by kernel_rfl)) rfl
            replace ha := Aside0.mk ha
            have HBr := Aside0.mk Q_HBr
            refine value_ (w1 := w') (v := .bool true) (by rfl) rfl ?_ ?_
            · go_simp
              (try simp only [i64_w])
              try rfl
            refine hK.out _ _ ⟨(by rw [ha.out]; exact putSel_upk 16 hb_ rfl rfl rfl), Q_HBr⟩
          refine steps_cons ?_ ?_
          · rintro b a w' ⟨ha, Q_HBr⟩ hb_ hon hoff
            refine ⟨_, rfl, fun K hK => ?_⟩
            have e42 : a.tmps[42]? = some (.bool true) := by rw [ha]; exact putSel_on (e := (16, 42, .bool true)) 16 rfl rfl (hon 16 (by kernel_rfl)) rfl
            replace ha := Aside0.mk ha
            have HBr := Aside0.mk Q_HBr
            refine value_ (w1 := w') (v := .bool true) (by rfl) rfl ?_ ?_
            · go_simp
              (try simp only [i64_w])
              try rfl
            refine hK.out _ _ ⟨(by rw [ha.out]; exact putSel_upk 17 hb_ rfl rfl rfl), Q_HBr⟩
          exact steps_nil
        rintro b a w' hall ⟨ha, Q_HBr⟩
        clear HBr
        have hb0_ := hall 0 (by kernel_rfl)
        have hb1_ := hall 1 (by kernel_rfl)
        have hb2_ := hall 2 (by kernel_rfl)
        have hb3_ := hall 3 (by kernel_rfl)
        have hb4_ := hall 4 (by kernel_rfl)
        have hb5_ := hall 5 (by kernel_rfl)
        have hb6_ := hall 6 (by kernel_rfl)
        have hb7_ := hall 7 (by kernel_rfl)
        have hb8_ := hall 8 (by kernel_rfl)
        have hb9_ := hall 9 (by kernel_rfl)
        have hb10_ := hall 10 (by kernel_rfl)
        have hb11_ := hall 11 (by kernel_rfl)
        have hb12_ := hall 12 (by kernel_rfl)
        have hb13_ := hall 13 (by kernel_rfl)
        have hb14_ := hall 14 (by kernel_rfl)
        have hb15_ := hall 15 (by kernel_rfl)
        have hb16_ := hall 16 (by kernel_rfl)
        have hb17_ := hall 17 (by kernel_rfl)
        subst ha
        simp only [putSel, hb0_, hb1_, hb2_, hb3_, hb4_, hb5_, hb6_, hb7_, hb8_, hb9_, hb10_, hb11_, hb12_, hb13_, hb14_, hb15_, hb16_, hb17_, if_true, Act.put, List.setIfInBounds_toArray, List.set_cons_zero, List.set_cons_succ]
        have HBr := Aside0.mk Q_HBr
        clear Q_HBr
        clear hall hb0_ hb1_ hb2_ hb3_ hb4_ hb5_ hb6_ hb7_ hb8_ hb9_ hb10_ hb11_ hb12_ hb13_ hb14_ hb15_ hb16_ hb17_
        go_wp2
        go_ret
        exact ⟨rfl, below_step HB.out HBr.out⟩
      · skip
        have hq1 : eqB50 x y = false := by rw [eqB50_dec]; exact decide_eq_false (fun h => hst (sayW_inj s t hok hokt (by rw [← hxs, ← hyt, h])))
        have hq2 : eqB48 s t = false := by rw [eqB48_dec]; exact decide_eq_false hst
        simp only [eqB50] at hq1
        simp only [eqB48] at hq2
        clear hxs hyt hok hokt hst
        go_wp2
        refine start_ (n := 18) (S := fun w' => True) (ds := []) #[false, false, false, false, false, false, false, false, false, false, false, false, false, false, false, false, false, false] (by kernel_rfl) rfl rfl trivial (fun hHeld => ?_)
        refine with_tabW hears.tab7 hears.bits7 (fun HT_ HW_ => ?_)
        have HBr := Aside0.mk (below_drew1 (Below.refl (w3.alloc (o50 y)).heap.size (w3.alloc (o50 y))))
        refine inv_at [0, 1, 2, 3, 4, 5, 6, 7, 8, 9, 10, 11, 12, 13, 14, 15, 16, 17] (fun a0_ b a w' => a = putSel a0_ b [(0, 26, .agg #[.int .i64 x.f0, .int .i64 x.f1, .int .i64 x.f2, .int .i64 x.f3, .bool x.f4]), (1, 27, .agg #[.bool s.f0, .int .i64 s.f1, .int .i64 s.f2]), (2, 28, .agg #[.bool s.f0, .int .i64 s.f1, .int .i64 s.f2]), (3, 29, .bool true), (4, 30, .bool true), (5, 31, .nilIface), (6, 32, .bool false), (7, 33, .bool false), (8, 34, .agg #[.int .i64 x.f0, .int .i64 x.f1, .int .i64 x.f2, .int .i64 x.f3, .bool x.f4]), (9, 35, .agg #[.int .i64 y.f0, .int .i64 y.f1, .int .i64 y.f2, .int .i64 y.f3, .bool y.f4]), (10, 36, .bool false), (11, 37, .agg #[.bool s.f0, .int .i64 s.f1, .int .i64 s.f2]), (12, 38, .agg #[.bool t.f0, .int .i64 t.f1, .int .i64 t.f2]), (13, 39, .bool false), (14, 40, .bool true), (15, 41, .bool true), (16, 42, .bool true), (17, 4, .bool true)] ∧ (Below (w3.alloc (o50 y)).heap.size (w3.alloc (o50 y)) w')) HT_.out HW_.out (by kernel_rfl) (by kernel_rfl) ?_ ?_ ?_
        · exact ⟨by simp only [putSel, Bool.false_eq_true, if_false], HBr.out⟩
        · skip
          clear HBr
          refine steps_cons ?_ ?_
          · rintro b a w' ⟨ha, Q_HBr⟩ hb_ hon hoff
            refine ⟨_, rfl, fun K hK => ?_⟩
            have e5 : a.tmps[5]? = some (.pointer (some ⟨w2.heap.size, 0, none⟩)) := by rw [ha]; exact (putSel_off rfl).trans rfl
            replace ha := Aside0.mk ha
            have HBr := Aside0.mk Q_HBr
            have z0_ : w'.cell? ⟨w2.heap.size, 0, none⟩ = some (.int .i64 x.f0) := (blk_cell (blk_below HBr.out XX.out) 0).trans rfl
            have z1_ : w'.cell? ⟨w2.heap.size, 1, none⟩ = some (.int .i64 x.f1) := (blk_cell (blk_below HBr.out XX.out) 1).trans rfl
            have z2_ : w'.cell? ⟨w2.heap.size, 2, none⟩ = some (.int .i64 x.f2) := (blk_cell (blk_below HBr.out XX.out) 2).trans rfl
            have z3_ : w'.cell? ⟨w2.heap.size, 3, none⟩ = some (.int .i64 x.f3) := (blk_cell (blk_below HBr.out XX.out) 3).trans rfl
            have z4_ : w'.cell? ⟨w2.heap.size, 4, none⟩ = some (.bool x.f4) := (blk_cell (blk_below HBr.out XX.out) 4).trans rfl
            refine value_ (w1 := w') (v := .agg #[.int .i64 x.f0, .int .i64 x.f1, .int .i64 x.f2, .int .i64 x.f3, .bool x.f4]) (by rfl) rfl ?_ ?_
            · go_simp
              (try simp only [i64_w])
              try rfl
            refine hK.out _ _ ⟨(by rw [ha.out]; exact putSel_upk 0 hb_ rfl rfl rfl), Q_HBr⟩
          refine steps_cons ?_ ?_
          · rintro b a w' ⟨ha, Q_HBr⟩ hb_ hon hoff
            refine ⟨_, rfl, fun K hK => ?_⟩
            have e26 : a.tmps[26]? = some (.agg #[.int .i64 x.f0, .int .i64 x.f1, .int .i64 x.f2, .int .i64 x.f3, .bool x.f4]) := by rw [ha]; exact putSel_on (e := (0, 26, .agg #[.int .i64 x.f0, .int .i64 x.f1, .int .i64 x.f2, .int .i64 x.f3, .bool x.f4])) 0 rfl rfl (hon 0 (by kernel_rfl)) rfl
            replace ha := Aside0.mk ha
            have HBr := Aside0.mk Q_HBr
            refine goes_ Tryd.func24 (by kernel_rfl) rfl #[.agg #[.int .i64 x.f0, .int .i64 x.f1, .int .i64 x.f2, .int .i64 x.f3, .bool x.f4]] (by rfl) rfl rfl (by first | (simp only [List.map_toArray, List.map_cons, List.map_nil, Act.eval, Array.getD_eq_getD_getElem?, Option.getD_some, e26]; done) | (simp only [List.map_toArray, List.map_cons, List.map_nil, Act.eval, Array.getD_eq_getD_getElem?, Option.getD_some, e26]; rfl)) ?_
            refine ((show Calls _ _ _ w' fun e w1 => e = .returned (v48 s) ∧ Below w'.heap.size w' w1 from by have h_ := hear_c x w'; rw [HX.out] at h_; exact h_)).mono ?_
            rintro e w1 ⟨rfl, hb1⟩
            refine ⟨_, rfl, ?_⟩
            refine hK.out _ _ ⟨(by rw [ha.out]; exact putSel_upk 1 hb_ rfl rfl rfl), below_step HBr.out hb1⟩
          refine steps_cons ?_ ?_
          · rintro b a w' ⟨ha, Q_HBr⟩ hb_ hon hoff
            refine ⟨_, rfl, fun K hK => ?_⟩
            have e2 : a.tmps[2]? = some (.pointer (some ⟨w.heap.size, 0, none⟩)) := by rw [ha]; exact (putSel_off rfl).trans rfl
            replace ha := Aside0.mk ha
            have HBr := Aside0.mk Q_HBr
            have z0_ : w'.cell? ⟨w.heap.size, 0, none⟩ = some (.bool s.f0) := (blk_cell (blk_below HBr.out XS.out) 0).trans rfl
            have z1_ : w'.cell? ⟨w.heap.size, 1, none⟩ = some (.int .i64 s.f1) := (blk_cell (blk_below HBr.out XS.out) 1).trans rfl
            have z2_ : w'.cell? ⟨w.heap.size, 2, none⟩ = some (.int .i64 s.f2) := (blk_cell (blk_below HBr.out XS.out) 2).trans rfl
            refine value_ (w1 := w') (v := .agg #[.bool s.f0, .int .i64 s.f1, .int .i64 s.f2]) (by rfl) rfl ?_ ?_
            · go_simp
              (try simp only [i64_w])
              try rfl
            refine hK.out _ _ ⟨(by rw [ha.out]; exact putSel_upk 2 hb_ rfl rfl rfl), Q_HBr⟩
          refine steps_cons ?_ ?_
          · rintro b a w' ⟨ha, Q_HBr⟩ hb_ hon hoff
            refine ⟨_, rfl, fun K hK => ?_⟩
            have e27 : a.tmps[27]? = some (.agg #[.bool s.f0, .int .i64 s.f1, .int .i64 s.f2]) := by rw [ha]; exact putSel_on (e := (1, 27, .agg #[.bool s.f0, .int .i64 s.f1, .int .i64 s.f2])) 1 rfl rfl (hon 1 (by kernel_rfl)) rfl
            have e28 : a.tmps[28]? = some (.agg #[.bool s.f0, .int .i64 s.f1, .int .i64 s.f2]) := by rw [ha]; exact putSel_on (e := (2, 28, .agg #[.bool s.f0, .int .i64 s.f1, .int .i64 s.f2])) 2 rfl rfl (hon 2 (by kernel_rfl)) rfl
            replace ha := Aside0.mk ha
            have HBr := Aside0.mk Q_HBr
            refine value_ (w1 := w') (v := .bool true) (by rfl) rfl ?_ ?_
            · go_simp
              (try simp only [i64_w])
              try rfl
            refine hK.out _ _ ⟨(by rw [ha.out]; exact putSel_upk 3 hb_ rfl rfl rfl), Q_HBr⟩
          refine steps_cons ?_ ?_
          · rintro b a w' ⟨ha, Q_HBr⟩ hb_ hon hoff
            refine ⟨_, rfl, fun K hK => ?_⟩
            have e29 : a.tmps[29]? = some (.bool true) := by rw [ha]; exact putSel_on (e := (3, 29, .bool true)) 3 rfl rfl (hon 3 (by kernel_rfl)) rfl
            replace ha := Aside0.mk ha
            have HBr := Aside0.mk Q_HBr
            refine value_ (w1 := w') (v := .bool true) (by rfl) rfl ?_ ?_
            · go_simp
              (try simp only [i64_w])
              try rfl
            refine hK.out _ _ ⟨(by rw [ha.out]; exact putSel_upk 4 hb_ rfl rfl rfl), Q_HBr⟩
          refine steps_cons ?_ ?_
          · rintro b a w' ⟨ha, Q_HBr⟩ hb_ hon hoff
            refine ⟨_, rfl, fun K hK => ?_⟩
            have e8 : a.tmps[8]? = some (.nilIface) := by rw [ha]; exact (putSel_off rfl).trans rfl
            have e30 : a.tmps[30]? = some (.bool true) := by rw [ha]; exact putSel_on (e := (4, 30, .bool true)) 4 rfl rfl (hon 4 (by kernel_rfl)) rfl
            replace ha := Aside0.mk ha
            have HBr := Aside0.mk Q_HBr
            refine value_ (w1 := w') (v := .nilIface) (wanted_on rfl rfl rfl (e30.trans (by first | rfl | (simp [*]; done)))) rfl ?_ ?_
            · go_simp
              (try simp only [i64_w])
              try rfl
            refine hK.out _ _ ⟨(by rw [ha.out]; exact putSel_upk 5 hb_ rfl rfl rfl), Q_HBr⟩
          refine steps_cons ?_ ?_
          · rintro b a w' ⟨ha, Q_HBr⟩ hb_ hon hoff
            refine ⟨_, rfl, fun K hK => ?_⟩
            have e31 : a.tmps[31]? = some (.nilIface) := by rw [ha]; exact putSel_on (e := (5, 31, .nilIface)) 5 rfl rfl (hon 5 (by kernel_rfl)) rfl
            have e30 : a.tmps[30]? = some (.bool true) := by rw [ha]; exact putSel_on (e := (4, 30, .bool true)) 4 rfl rfl (hon 4 (by kernel_rfl)) rfl
            replace ha := Aside0.mk ha
            have HBr := Aside0.mk Q_HBr
            refine value_ (w1 := w') (v := .bool false) (wanted_on rfl rfl rfl (e30.trans (by first | rfl | (simp [*]; done)))) rfl ?_ ?_
            · go_simp
              (try simp only [i64_w])
              try rfl
            refine hK.out _ _ ⟨(by rw [ha.out]; exact putSel_upk 6 hb_ rfl rfl rfl), Q_HBr⟩
          refine steps_cons ?_ ?_
          · rintro b a w' ⟨ha, Q_HBr⟩ hb_ hon hoff
            refine ⟨_, rfl, fun K hK => ?_⟩
            have e32 : a.tmps[32]? = some (.bool false) := by rw [ha]; exact putSel_on (e := (6, 32, .bool false)) 6 rfl rfl (hon 6 (by kernel_rfl)) rfl
            have e30 : a.tmps[30]? = some (.bool true) := by rw [ha]; exact putSel_on (e := (4, 30, .bool true)) 4 rfl rfl (hon 4 (by kernel_rfl)) rfl
            replace ha := Aside0.mk ha
            have HBr := Aside0.mk Q_HBr
            refine value_ (w1 := w') (v := .bool false) (wanted_on rfl rfl rfl (e30.trans (by first | rfl | (simp [*]; done)))) rfl ?_ ?_
            · go_simp
              (try simp only [i64_w])
              try rfl
            refine hK.out _ _ ⟨(by rw [ha.out]; exact putSel_upk 7 hb_ rfl rfl rfl), Q_HBr⟩
          refine steps_cons ?_ ?_
          · rintro b a w' ⟨ha, Q_HBr⟩ hb_ hon hoff
            refine ⟨_, rfl, fun K hK => ?_⟩
            have e5 : a.tmps[5]? = some (.pointer (some ⟨w2.heap.size, 0, none⟩)) := by rw [ha]; exact (putSel_off rfl).trans rfl
            have e33 : a.tmps[33]? = some (.bool false) := by rw [ha]; exact putSel_on (e := (7, 33, .bool false)) 7 rfl rfl (hon 7 (by kernel_rfl)) rfl
            replace ha := Aside0.mk ha
            have HBr := Aside0.mk Q_HBr
            have z0_ : w'.cell? ⟨w2.heap.size, 0, none⟩ = some (.int .i64 x.f0) := (blk_cell (blk_below HBr.out XX.out) 0).trans rfl
            have z1_ : w'.cell? ⟨w2.heap.size, 1, none⟩ = some (.int .i64 x.f1) := (blk_cell (blk_below HBr.out XX.out) 1).trans rfl
            have z2_ : w'.cell? ⟨w2.heap.size, 2, none⟩ = some (.int .i64 x.f2) := (blk_cell (blk_below HBr.out XX.out) 2).trans rfl
            have z3_ : w'.cell? ⟨w2.heap.size, 3, none⟩ = some (.int .i64 x.f3) := (blk_cell (blk_below HBr.out XX.out) 3).trans rfl
            have z4_ : w'.cell? ⟨w2.heap.size, 4, none⟩ = some (.bool x.f4) := (blk_cell (blk_below HBr.out XX.out) 4).trans rfl
            refine value_ (w1 := w') (v := .agg #[.int .i64 x.f0, .int .i64 x.f1, .int .i64 x.f2, .int .i64 x.f3, .bool x.f4]) (wanted_on rfl rfl rfl (e33.trans (by first | rfl | (simp [*]; done)))) rfl ?_ ?_
            · go_simp
              (try simp only [i64_w])
              try rfl
            refine hK.out _ _ ⟨(by rw [ha.out]; exact putSel_upk 8 hb_ rfl rfl rfl), Q_HBr⟩
          refine steps_cons ?_ ?_
          · rintro b a w' ⟨ha, Q_HBr⟩ hb_ hon hoff
            refine ⟨_, rfl, fun K hK => ?_⟩
            have e7 : a.tmps[7]? = some (.pointer (some ⟨w3.heap.size, 0, none⟩)) := by rw [ha]; exact (putSel_off rfl).trans rfl
            have e33 : a.tmps[33]? = some (.bool false) := by rw [ha]; exact putSel_on (e := (7, 33, .bool false)) 7 rfl rfl (hon 7 (by kernel_rfl)) rfl
            replace ha := Aside0.mk ha
            have HBr := Aside0.mk Q_HBr
            have z0_ : w'.cell? ⟨w3.heap.size, 0, none⟩ = some (.int .i64 y.f0) := (blk_cell (blk_below HBr.out XY.out) 0).trans rfl
            have z1_ : w'.cell? ⟨w3.heap.size, 1, none⟩ = some (.int .i64 y.f1) := (blk_cell (blk_below HBr.out XY.out) 1).trans rfl
            have z2_ : w'.cell? ⟨w3.heap.size, 2, none⟩ = some (.int .i64 y.f2) := (blk_cell (blk_below HBr.out XY.out) 2).trans rfl
            have z3_ : w'.cell? ⟨w3.heap.size, 3, none⟩ = some (.int .i64 y.f3) := (blk_cell (blk_below HBr.out XY.out) 3).trans rfl
            have z4_ : w'.cell? ⟨w3.heap.size, 4, none⟩ = some (.bool y.f4) := (blk_cell (blk_below HBr.out XY.out) 4).trans rfl
            refine value_ (w1 := w') (v := .agg #[.int .i64 y.f0, .int .i64 y.f1, .int .i64 y.f2, .int .i64 y.f3, .bool y.f4]) (wanted_on rfl rfl rfl (e33.trans (by first | rfl | (simp [*]; done)))) rfl ?_ ?_
            · go_simp
              (try simp only [i64_w])
              try rfl
            refine hK.out _ _ ⟨(by rw [ha.out]; exact putSel_upk 9 hb_ rfl rfl rfl), Q_HBr⟩
          refine steps_cons ?_ ?_
          · rintro b a w' ⟨ha, Q_HBr⟩ hb_ hon hoff
            refine ⟨_, rfl, fun K hK => ?_⟩
            have e34 : a.tmps[34]? = some (.agg #[.int .i64 x.f0, .int .i64 x.f1, .int .i64 x.f2, .int .i64 x.f3, .bool x.f4]) := by rw [ha]; exact putSel_on (e := (8, 34, .agg #[.int .i64 x.f0, .int .i64 x.f1, .int .i64 x.f2, .int .i64 x.f3, .bool x.f4])) 8 rfl rfl (hon 8 (by kernel_rfl)) rfl
            have e35 : a.tmps[35]? = some (.agg #[.int .i64 y.f0, .int .i64 y.f1, .int .i64 y.f2, .int .i64 y.f3, .bool y.f4]) := by rw [ha]; exact putSel_on (e := (9, 35, .agg #[.int .i64 y.f0, .int .i64 y.f1, .int .i64 y.f2, .int .i64 y.f3, .bool y.f4])) 9 rfl rfl (hon 9 (by kernel_rfl)) rfl
            have e33 : a.tmps[33]? = some (.bool false) := by rw [ha]; exact putSel_on (e := (7, 33, .bool false)) 7 rfl rfl (hon 7 (by kernel_rfl)) rfl
            replace ha := Aside0.mk ha
            have HBr := Aside0.mk Q_HBr
            refine value_ (w1 := w') (v := .bool false) (wanted_on rfl rfl rfl (e33.trans (by first | rfl | (simp [*]; done)))) rfl ?_ ?_
            · go_simp
              (try simp only [i64_w])
              try rfl
            refine hK.out _ _ ⟨(by rw [ha.out]; exact putSel_upk 10 hb_ rfl rfl rfl), Q_HBr⟩
          refine steps_cons ?_ ?_
          · rintro b a w' ⟨ha, Q_HBr⟩ hb_ hon hoff
            refine ⟨_, rfl, fun K hK => ?_⟩
            have e2 : a.tmps[2]? = some (.pointer (some ⟨w.heap.size, 0, none⟩)) := by rw [ha]; exact (putSel_off rfl).trans rfl
            have e33 : a.tmps[33]? = some (.bool false) := by rw [ha]; exact putSel_on (e := (7, 33, .bool false)) 7 rfl rfl (hon 7 (by kernel_rfl)) rfl
            replace ha := Aside0.mk ha
            have HBr := Aside0.mk Q_HBr
            have z0_ : w'.cell? ⟨w.heap.size, 0, none⟩ = some (.bool s.f0) := (blk_cell (blk_below HBr.out XS.out) 0).trans rfl
            have z1_ : w'.cell? ⟨w.heap.size, 1, none⟩ = some (.int .i64 s.f1) := (blk_cell (blk_below HBr.out XS.out) 1).trans rfl
            have z2_ : w'.cell? ⟨w.heap.size, 2, none⟩ = some (.int .i64 s.f2) := (blk_cell (blk_below HBr.out XS.out) 2).trans rfl
            refine value_ (w1 := w') (v := .agg #[.bool s.f0, .int .i64 s.f1, .int .i64 s.f2]) (wanted_on rfl rfl rfl (e33.trans (by first | rfl | (simp [*]; done)))) rfl ?_ ?_
            · go_simp
              (try simp only [i64_w])
              try rfl
            refine hK.out _ _ ⟨(by rw [ha.out]; exact putSel_upk 11 hb_ rfl rfl rfl), Q_HBr⟩
          refine steps_cons ?_ ?_
          · rintro b a w' ⟨ha, Q_HBr⟩ hb_ hon hoff
            refine ⟨_, rfl, fun K hK => ?_⟩
            have e3 : a.tmps[3]? = some (.pointer (some ⟨w.heap.size + 1, 0, none⟩)) := by rw [ha]; exact (putSel_off rfl).trans rfl
            have e33 : a.tmps[33]? = some (.bool false) := by rw [ha]; exact putSel_on (e := (7, 33, .bool false)) 7 rfl rfl (hon 7 (by kernel_rfl)) rfl
            replace ha := Aside0.mk ha
            have HBr := Aside0.mk Q_HBr
            have z0_ : w'.cell? ⟨w.heap.size + 1, 0, none⟩ = some (.bool t.f0) := (blk_cell (blk_below HBr.out XT.out) 0).trans rfl
            have z1_ : w'.cell? ⟨w.heap.size + 1, 1, none⟩ = some (.int .i64 t.f1) := (blk_cell (blk_below HBr.out XT.out) 1).trans rfl
            have z2_ : w'.cell? ⟨w.heap.size + 1, 2, none⟩ = some (.int .i64 t.f2) := (blk_cell (blk_below HBr.out XT.out) 2).trans rfl
            refine value_ (w1 := w') (v := .agg #[.bool t.f0, .int .i64 t.f1, .int .i64 t.f2]) (wanted_on rfl rfl rfl (e33.trans (by first | rfl | (simp [*]; done)))) rfl ?_ ?_
            · go_simp
              (try simp only [i64_w])
              try rfl
            refine hK.out _ _ ⟨(by rw [ha.out]; exact putSel_upk 12 hb_ rfl rfl rfl), Q_HBr⟩
          refine steps_cons ?_ ?_
          · rintro b a w' ⟨ha, Q_HBr⟩ hb_ hon hoff
            refine ⟨_, rfl, fun K hK => ?_⟩
            have e37 : a.tmps[37]? = some (.agg #[.bool s.f0, .int .i64 s.f1, .int .i64 s.f2]) := by rw [ha]; exact putSel_on (e := (11, 37, .agg #[.bool s.f0, .int .i64 s.f1, .int .i64 s.f2])) 11 rfl rfl (hon 11 (by kernel_rfl)) rfl
            have e38 : a.tmps[38]? = some (.agg #[.bool t.f0, .int .i64 t.f1, .int .i64 t.f2]) := by rw [ha]; exact putSel_on (e := (12, 38, .agg #[.bool t.f0, .int .i64 t.f1, .int .i64 t.f2])) 12 rfl rfl (hon 12 (by kernel_rfl)) rfl
            have e33 : a.tmps[33]? = some (.bool false) := by rw [ha]; exact putSel_on (e := (7, 33, .bool false)) 7 rfl rfl (hon 7 (by kernel_rfl)) rfl
            replace ha := Aside0.mk ha
            have HBr := Aside0.mk Q_HBr
            refine value_ (w1 := w') (v := .bool false) (wanted_on rfl rfl rfl (e33.trans (by first | rfl | (simp [*]; done)))) rfl ?_ ?_
            · go_simp
              (try simp only [i64_w])
              try rfl
            refine hK.out _ _ ⟨(by rw [ha.out]; exact putSel_upk 13 hb_ rfl rfl rfl), Q_HBr⟩
          refine steps_cons ?_ ?_
          · rintro b a w' ⟨ha, Q_HBr⟩ hb_ hon hoff
            refine ⟨_, rfl, fun K hK => ?_⟩
            have e36 : a.tmps[36]? = some (.bool false) := by rw [ha]; exact putSel_on (e := (10, 36, .bool false)) 10 rfl rfl (hon 10 (by kernel_rfl)) rfl
            have e39 : a.tmps[39]? = some (.bool false) := by rw [ha]; exact putSel_on (e := (13, 39, .bool false)) 13 rfl rfl (hon 13 (by kernel_rfl)) rfl
            have e33 : a.tmps[33]? = some (.bool false) := by rw [ha]; exact putSel_on (e := (7, 33, .bool false)) 7 rfl rfl (hon 7 (by kernel_rfl)) rfl
            replace ha := Aside0.mk ha
            have HBr := Aside0.mk Q_HBr
            refine value_ (w1 := w') (v := .bool true) (wanted_on rfl rfl rfl (e33.trans (by first | rfl | (simp [*]; done)))) rfl ?_ ?_
            · go_simp
              (try simp only [i64_w])
              try rfl
            refine hK.out _ _ ⟨(by rw [ha.out]; exact putSel_upk 14 hb_ rfl rfl rfl), Q_HBr⟩
          refine steps_cons ?_ ?_
          · rintro b a w' ⟨ha, Q_HBr⟩ hb_ hon hoff
            refine ⟨_, rfl, fun K hK => ?_⟩
            have e33 : a.tmps[33]? = some (.bool false) := by rw [ha]; exact putSel_on (e := (7, 33, .bool false)) 7 rfl rfl (hon 7 (by kernel_rfl)) rfl
            have e40 : a.tmps[40]? = some (.bool true) := by rw [ha]; exact putSel_on (e := (14, 40, .bool true)) 14 rfl rfl (hon 14 (by kernel_rfl)) rfl
            have e30 : a.tmps[30]? = some (.bool true) := by rw [ha]; exact putSel_on (e := (4, 30, .bool true)) 4 rfl rfl (hon 4 (by kernel_rfl)) rfl
            replace ha := Aside0.mk ha
            have HBr := Aside0.mk Q_HBr
            refine value_ (w1 := w') (v := .bool true) (wanted_on rfl rfl rfl (e30.trans (by first | rfl | (simp [*]; done)))) rfl ?_ ?_
            · go_simp
              (try simp only [i64_w])
              try rfl
            refine hK.out _ _ ⟨(by rw [ha.out]; exact putSel_upk 15 hb_ rfl rfl rfl), Q_HBr⟩
          refine steps_cons ?_ ?_
          · rintro b a w' ⟨ha, Q_HBr⟩ hb_ hon hoff
            refine ⟨_, rfl, fun K hK => ?_⟩
            have e30 : a.tmps[30]? = some (.bool true) := by rw [ha]; exact putSel_on (e := (4, 30, .bool true)) 4 rfl rfl (hon 4 (by kernel_rfl)) rfl
            have e41 : a.tmps[41]? = some (.bool true) := by rw [ha]; exact putSel_on (e := (15, 41, .bool true)) 15 rfl rfl (hon 15 (by kernel_rfl)) rfl
            replace ha := Aside0.mk ha
            have HBr := Aside0.mk Q_HBr
            refine value_ (w1 := w') (v := .bool true) (by rfl) rfl ?_ ?_
            · go_simp
              (try simp only [i64_w])
              try rfl
            refine hK.out _ _ ⟨(by rw [ha.out]; exact putSel_upk 16 hb_ rfl rfl rfl), Q_HBr⟩
          refine steps_cons ?_ ?_
          · rintro b a w' ⟨ha, Q_HBr⟩ hb_ hon hoff
            refine ⟨_, rfl, fun K hK => ?_⟩
            have e42 : a.tmps[42]? = some (.bool true) := by rw [ha]; exact putSel_on (e := (16, 42, .bool true)) 16 rfl rfl (hon 16 (by kernel_rfl)) rfl
            replace ha := Aside0.mk ha
            have HBr := Aside0.mk Q_HBr
            refine value_ (w1 := w') (v := .bool true) (by rfl) rfl ?_ ?_
            · go_simp
              (try simp only [i64_w])
              try rfl
            refine hK.out _ _ ⟨(by rw [ha.out]; exact putSel_upk 17 hb_ rfl rfl rfl), Q_HBr⟩
          exact steps_nil
        rintro b a w' hall ⟨ha, Q_HBr⟩
        clear HBr
        have hb0_ := hall 0 (by kernel_rfl)
        have hb1_ := hall 1 (by kernel_rfl)
        have hb2_ := hall 2 (by kernel_rfl)
        have hb3_ := hall 3 (by kernel_rfl)
        have hb4_ := hall 4 (by kernel_rfl)
        have hb5_ := hall 5 (by kernel_rfl)
        have hb6_ := hall 6 (by kernel_rfl)
        have hb7_ := hall 7 (by kernel_rfl)
        have hb8_ := hall 8 (by kernel_rfl)
        have hb9_ := hall 9 (by kernel_rfl)
        have hb10_ := hall 10 (by kernel_rfl)
        have hb11_ := hall 11 (by kernel_rfl)
        have hb12_ := hall 12 (by kernel_rfl)
        have hb13_ := hall 13 (by kernel_rfl)
        have hb14_ := hall 14 (by kernel_rfl)
        have hb15_ := hall 15 (by kernel_rfl)
        have hb16_ := hall 16 (by kernel_rfl)
        have hb17_ := hall 17 (by kernel_rfl)
        subst ha
        simp only [putSel, hb0_, hb1_, hb2_, hb3_, hb4_, hb5_, hb6_, hb7_, hb8_, hb9_, hb10_, hb11_, hb12_, hb13_, hb14_, hb15_, hb16_, hb17_, if_true, Act.put, List.setIfInBounds_toArray, List.set_cons_zero, List.set_cons_succ]
        have HBr := Aside0.mk Q_HBr
        clear Q_HBr
        clear hall hb0_ hb1_ hb2_ hb3_ hb4_ hb5_ hb6_ hb7_ hb8_ hb9_ hb10_ hb11_ hb12_ hb13_ hb14_ hb15_ hb16_ hb17_
        go_wp2
        go_ret
        exact ⟨rfl, below_step HB.out HBr.out⟩
    · clear hy0
      go_wp2
      refine start_ (n := 18) (S := fun w' => True) (ds := []) #[false, false, false, false, false, false, false, false, false, false, false, false, false, false, false, false, false, false] (by kernel_rfl) rfl rfl trivial (fun hHeld => ?_)
      refine with_tabW hears.tab7 hears.bits7 (fun HT_ HW_ => ?_)
      have HBr := Aside0.mk (below_drew1 (Below.refl (w3.alloc (o50 y)).heap.size (w3.alloc (o50 y))))
      refine inv_at [0, 1, 2, 3, 4, 5, 6, 7, 8, 9, 10, 11, 12, 13, 14, 15, 16, 17] (fun a0_ b a w' => a = putSel a0_ b [(0, 26, .agg #[.int .i64 x.f0, .int .i64 x.f1, .int .i64 x.f2, .int .i64 x.f3, .bool x.f4]), (1, 27, .agg #[.bool s.f0, .int .i64 s.f1, .int .i64 s.f2]), (2, 28, .agg #[.bool s.f0, .int .i64 s.f1, .int .i64 s.f2]), (3, 29, .bool true), (4, 30, .bool true), (5, 31, .iface 61 (.pointer (some ⟨gv, 0, none⟩))), (6, 32, .bool true), (7, 33, .bool true), (8, 34, undef), (9, 35, undef), (10, 36, undef), (11, 37, undef), (12, 38, undef), (13, 39, undef), (14, 40, undef), (15, 41, .bool true), (16, 42, .bool true), (17, 4, .bool true)] ∧ (Below (w3.alloc (o50 y)).heap.size (w3.alloc (o50 y)) w')) HT_.out HW_.out (by kernel_rfl) (by kernel_rfl) ?_ ?_ ?_
      · exact ⟨by simp only [putSel, Bool.false_eq_true, if_false], HBr.out⟩
      · skip
        clear HBr
        refine steps_cons ?_ ?_
        · rintro b a w' ⟨ha, Q_HBr⟩ hb_ hon hoff
          refine ⟨_, rfl, fun K hK => ?_⟩
          have e5 : a.tmps[5]? = some (.pointer (some ⟨w2.heap.size, 0, none⟩)) := by rw [ha]; exact (putSel_off rfl).trans rfl
          replace ha := Aside0.mk ha
          have HBr := Aside0.mk Q_HBr
          have z0_ : w'.cell? ⟨w2.heap.size, 0, none⟩ = some (.int .i64 x.f0) := (blk_cell (blk_below HBr.out XX.out) 0).trans rfl
          have z1_ : w'.cell? ⟨w2.heap.size, 1, none⟩ = some (.int .i64 x.f1) := (blk_cell (blk_below HBr.out XX.out) 1).trans rfl
          have z2_ : w'.cell? ⟨w2.heap.size, 2, none⟩ = some (.int .i64 x.f2) := (blk_cell (blk_below HBr.out XX.out) 2).trans rfl
          have z3_ : w'.cell? ⟨w2.heap.size, 3, none⟩ = some (.int .i64 x.f3) := (blk_cell (blk_below HBr.out XX.out) 3).trans rfl
          have z4_ : w'.cell? ⟨w2.heap.size, 4, none⟩ = some (.bool x.f4) := (blk_cell (blk_below HBr.out XX.out) 4).trans rfl
          refine value_ (w1 := w') (v := .agg #[.int .i64 x.f0, .int .i64 x.f1, .int .i64 x.f2, .int .i64 x.f3, .bool x.f4]) (by rfl) rfl ?_ ?_
          · go_simp
            (try simp only [i64_w])
            try rfl
          refine hK.out _ _ ⟨(by rw [ha.out]; exact putSel_upk 0 hb_ rfl rfl rfl), Q_HBr⟩
        refine steps_cons ?_ ?_
        · rintro b a w' ⟨ha, Q_HBr⟩ hb_ hon hoff
          refine ⟨_, rfl, fun K hK => ?_⟩
          have e26 : a.tmps[26]? = some (.agg #[.int .i64 x.f0, .int .i64 x.f1, .int .i64 x.f2, .int .i64 x.f3, .bool x.f4]) := by rw [ha]; exact putSel_on (e := (0, 26, .agg #[.int .i64 x.f0, .int .i64 x.f1, .int .i64 x.f2, .int .i64 x.f3, .bool x.f4])) 0 rfl rfl (hon 0 (by kernel_rfl)) rfl
          replace ha := Aside0.mk ha
          have HBr := Aside0.mk Q_HBr
          refine goes_ Tryd.func24 (by kernel_rfl) rfl #[.agg #[.int .i64 x.f0, .int .i64 x.f1, .int .i64 x.f2, .int .i64 x.f3, .bool x.f4]] (by rfl) rfl rfl (by first | (simp only [List.map_toArray, List.map_cons, List.map_nil, Act.eval, Array.getD_eq_getD_getElem?, Option.getD_some, e26]; done) | (simp only [List.map_toArray, List.map_cons, List.map_nil, Act.eval, Array.getD_eq_getD_getElem?, Option.getD_some, e26]; rfl)) ?_
          refine ((show Calls _ _ _ w' fun e w1 => e = .returned (v48 s) ∧ Below w'.heap.size w' w1 from by have h_ := hear_c x w'; rw [HX.out] at h_; exact h_)).mono ?_
          rintro e w1 ⟨rfl, hb1⟩
          refine ⟨_, rfl, ?_⟩
          refine hK.out _ _ ⟨(by rw [ha.out]; exact putSel_upk 1 hb_ rfl rfl rfl), below_step HBr.out hb1⟩
        refine steps_cons ?_ ?_
        · rintro b a w' ⟨ha, Q_HBr⟩ hb_ hon hoff
          refine ⟨_, rfl, fun K hK => ?_⟩
          have e2 : a.tmps[2]? = some (.pointer (some ⟨w.heap.size, 0, none⟩)) := by rw [ha]; exact (putSel_off rfl).trans rfl
          replace ha := Aside0.mk ha
          have HBr := Aside0.mk Q_HBr
          have z0_ : w'.cell? ⟨w.heap.size, 0, none⟩ = some (.bool s.f0) := (blk_cell (blk_below HBr.out XS.out) 0).trans rfl
          have z1_ : w'.cell? ⟨w.heap.size, 1, none⟩ = some (.int .i64 s.f1) := (blk_cell (blk_below HBr.out XS.out) 1).trans rfl
          have z2_ : w'.cell? ⟨w.heap.size, 2, none⟩ = some (.int .i64 s.f2) := (blk_cell (blk_below HBr.out XS.out) 2).trans rfl
          refine value_ (w1 := w') (v := .agg #[.bool s.f0, .int .i64 s.f1, .int .i64 s.f2]) (by rfl) rfl ?_ ?_
          · go_simp
            (try simp only [i64_w])
            try rfl
          refine hK.out _ _ ⟨(by rw [ha.out]; exact putSel_upk 2 hb_ rfl rfl rfl), Q_HBr⟩
        refine steps_cons ?_ ?_
        · rintro b a w' ⟨ha, Q_HBr⟩ hb_ hon hoff
          refine ⟨_, rfl, fun K hK => ?_⟩
          have e27 : a.tmps[27]? = some (.agg #[.bool s.f0, .int .i64 s.f1, .int .i64 s.f2]) := by rw [ha]; exact putSel_on (e := (1, 27, .agg #[.bool s.f0, .int .i64 s.f1, .int .i64 s.f2])) 1 rfl rfl (hon 1 (by kernel_rfl)) rfl
          have e28 : a.tmps[28]? = some (.agg #[.bool s.f0, .int .i64 s.f1, .int .i64 s.f2]) := by rw [ha]; exact putSel_on (e := (2, 28, .agg #[.bool s.f0, .int .i64 s.f1, .int .i64 s.f2])) 2 rfl rfl (hon 2 (by kernel_rfl)) rfl
          replace ha := Aside0.mk ha
          have HBr := Aside0.mk Q_HBr
          refine value_ (w1 := w') (v := .bool true) (by rfl) rfl ?_ ?_
          · go_simp
            (try simp only [i64_w])
            try rfl
          refine hK.out _ _ ⟨(by rw [ha.out]; exact putSel_upk 3 hb_ rfl rfl rfl), Q_HBr⟩
        refine steps_cons ?_ ?_
        · rintro b a w' ⟨ha, Q_HBr⟩ hb_ hon hoff
          refine ⟨_, rfl, fun K hK => ?_⟩
          have e29 : a.tmps[29]? = some (.bool true) := by rw [ha]; exact putSel_on (e := (3, 29, .bool true)) 3 rfl rfl (hon 3 (by kernel_rfl)) rfl
          replace ha := Aside0.mk ha
          have HBr := Aside0.mk Q_HBr
          refine value_ (w1 := w') (v := .bool true) (by rfl) rfl ?_ ?_
          · go_simp
            (try simp only [i64_w])
            try rfl
          refine hK.out _ _ ⟨(by rw [ha.out]; exact putSel_upk 4 hb_ rfl rfl rfl), Q_HBr⟩
        refine steps_cons ?_ ?_
        · rintro b a w' ⟨ha, Q_HBr⟩ hb_ hon hoff
          refine ⟨_, rfl, fun K hK => ?_⟩
          have e8 : a.tmps[8]? = some (.iface 61 (.pointer (some ⟨gv, 0, none⟩))) := by rw [ha]; exact (putSel_off rfl).trans rfl
          have e30 : a.tmps[30]? = some (.bool true) := by rw [ha]; exact putSel_on (e := (4, 30, .bool true)) 4 rfl rfl (hon 4 (by kernel_rfl)) rfl
          replace ha := Aside0.mk ha
          have HBr := Aside0.mk Q_HBr
          refine value_ (w1 := w') (v := .iface 61 (.pointer (some ⟨gv, 0, none⟩))) (wanted_on rfl rfl rfl (e30.trans (by first | rfl | (simp [*]; done)))) rfl ?_ ?_
          · go_simp
            (try simp only [i64_w])
            try rfl
          refine hK.out _ _ ⟨(by rw [ha.out]; exact putSel_upk 5 hb_ rfl rfl rfl), Q_HBr⟩
        refine steps_cons ?_ ?_
        · rintro b a w' ⟨ha, Q_HBr⟩ hb_ hon hoff
          refine ⟨_, rfl, fun K hK => ?_⟩
          have e31 : a.tmps[31]? = some (.iface 61 (.pointer (some ⟨gv, 0, none⟩))) := by rw [ha]; exact putSel_on (e := (5, 31, .iface 61 (.pointer (some ⟨gv, 0, none⟩)))) 5 rfl rfl (hon 5 (by kernel_rfl)) rfl
          have e30 : a.tmps[30]? = some (.bool true) := by rw [ha]; exact putSel_on (e := (4, 30, .bool true)) 4 rfl rfl (hon 4 (by kernel_rfl)) rfl
          replace ha := Aside0.mk ha
          have HBr := Aside0.mk Q_HBr
          refine value_ (w1 := w') (v := .bool true) (wanted_on rfl rfl rfl (e30.trans (by first | rfl | (simp [*]; done)))) rfl ?_ ?_
          · go_simp
            (try simp only [i64_w])
            try rfl
          refine hK.out _ _ ⟨(by rw [ha.out]; exact putSel_upk 6 hb_ rfl rfl rfl), Q_HBr⟩
        refine steps_cons ?_ ?_
        · rintro b a w' ⟨ha, Q_HBr⟩ hb_ hon hoff
          refine ⟨_, rfl, fun K hK => ?_⟩
          have e32 : a.tmps[32]? = some (.bool true) := by rw [ha]; exact putSel_on (e := (6, 32, .bool true)) 6 rfl rfl (hon 6 (by kernel_rfl)) rfl
          have e30 : a.tmps[30]? = some (.bool true) := by rw [ha]; exact putSel_on (e := (4, 30, .bool true)) 4 rfl rfl (hon 4 (by kernel_rfl)) rfl
          replace ha := Aside0.mk ha
          have HBr := Aside0.mk Q_HBr
          refine value_ (w1 := w') (v := .bool true) (wanted_on rfl rfl rfl (e30.trans (by first | rfl | (simp [*]; done)))) rfl ?_ ?_
          · go_simp
            (try simp only [i64_w])
            try rfl
          refine hK.out _ _ ⟨(by rw [ha.out]; exact putSel_upk 7 hb_ rfl rfl rfl), Q_HBr⟩
        refine steps_cons ?_ ?_
        · rintro b a w' ⟨ha, Q_HBr⟩ hb_ hon hoff
          refine ⟨_, rfl, fun K hK => ?_⟩
          have e33 : a.tmps[33]? = some (.bool true) := by rw [ha]; exact putSel_on (e := (7, 33, .bool true)) 7 rfl rfl (hon 7 (by kernel_rfl)) rfl
          replace ha := Aside0.mk ha
          have HBr := Aside0.mk Q_HBr
          refine off_ (wanted_off rfl rfl rfl (e33.trans (by first | rfl | (simp [*]; done)))) ?_
          refine hK.out _ _ ⟨(by rw [ha.out]; exact putSel_upk 8 hb_ rfl rfl rfl), Q_HBr⟩
        refine steps_cons ?_ ?_
        · rintro b a w' ⟨ha, Q_HBr⟩ hb_ hon hoff
          refine ⟨_, rfl, fun K hK => ?_⟩
          have e33 : a.tmps[33]? = some (.bool true) := by rw [ha]; exact putSel_on (e := (7, 33, .bool true)) 7 rfl rfl (hon 7 (by kernel_rfl)) rfl
          replace ha := Aside0.mk ha
          have HBr := Aside0.mk Q_HBr
          refine off_ (wanted_off rfl rfl rfl (e33.trans (by first | rfl | (simp [*]; done)))) ?_
          refine hK.out _ _ ⟨(by rw [ha.out]; exact putSel_upk 9 hb_ rfl rfl rfl), Q_HBr⟩
        refine steps_cons ?_ ?_
        · rintro b a w' ⟨ha, Q_HBr⟩ hb_ hon hoff
          refine ⟨_, rfl, fun K hK => ?_⟩
          have e33 : a.tmps[33]? = some (.bool true) := by rw [ha]; exact putSel_on (e := (7, 33, .bool true)) 7 rfl rfl (hon 7 (by kernel_rfl)) rfl
          replace ha := Aside0.mk ha
          have HBr := Aside0.mk Q_HBr
          refine off_ (wanted_off rfl rfl rfl (e33.trans (by first | rfl | (simp [*]; done)))) ?_
          refine hK.out _ _ ⟨(by rw [ha.out]; exact putSel_upk 10 hb_ rfl rfl rfl), Q_HBr⟩
        refine steps_cons ?_ ?_
        · rintro b a w' ⟨ha, Q_HBr⟩ hb_ hon hoff
          refine ⟨_, rfl, fun K hK => ?_⟩
          have e33 : a.tmps[33]? = some (.bool true) := by rw [ha]; exact putSel_on (e := (7, 33, .bool true)) 7 rfl rfl (hon 7 (by kernel_rfl)) rfl
          replace ha := Aside0.mk ha
          have HBr := Aside0.mk Q_HBr
          refine off_ (wanted_off rfl rfl rfl (e33.trans (by first | rfl | (simp [*]; done)))) ?_
          refine hK.out _ _ ⟨(by rw [ha.out]; exact putSel_upk 11 hb_ rfl rfl rfl), Q_HBr⟩
        refine steps_cons ?_ ?_
        · rintro b a w' ⟨ha, Q_HBr⟩ hb_ hon hoff
          refine ⟨_, rfl, fun K hK => ?_⟩
          have e33 : a.tmps[33]? = some (.bool true) := by rw [ha]; exact putSel_on (e := (7, 33, .bool true)) 7 rfl rfl (hon 7 (by kernel_rfl)) rfl
          replace ha := Aside0.mk ha
          have HBr := Aside0.mk Q_HBr
          refine off_ (wanted_off rfl rfl rfl (e33.trans (by first | rfl | (simp [*]; done)))) ?_
          refine hK.out _ _ ⟨(by rw [ha.out]; exact putSel_upk 12 hb_ rfl rfl rfl), Q_HBr⟩
        refine steps_cons ?_ ?_
        · rintro b a w' ⟨ha, Q_HBr⟩ hb_ hon hoff
          refine ⟨_, rfl, fun K hK => ?_⟩
          have e33 : a.tmps[33]? = some (.bool true) := by rw [ha]; exact putSel_on (e := (7, 33, .bool true)) 7 rfl rfl (hon 7 (by kernel_rfl)) rfl
          replace ha := Aside0.mk ha
          have HBr := Aside0.mk Q_HBr
          refine off_ (wanted_off rfl rfl rfl (e33.trans (by first | rfl | (simp [*]; done)))) ?_
          refine hK.out _ _ ⟨(by rw [ha.out]; exact putSel_upk 13 hb_ rfl rfl rfl), Q_HBr⟩
        refine steps_cons ?_ ?_
        · rintro b a w' ⟨ha, Q_HBr⟩ hb_ hon hoff
          refine ⟨_, rfl, fun K hK => ?_⟩
          have e33 : a.tmps[33]? = some (.bool true) := by rw [ha]; exact putSel_on (e := (7, 33, .bool true)) 7 rfl rfl (hon 7 (by kernel_rfl)) rfl
          replace ha := Aside0.mk ha
          have HBr := Aside0.mk Q_HBr
          refine off_ (wanted_off rfl rfl rfl (e33.trans (by first | rfl | (simp [*]; done)))) ?_
          refine hK.out _ _ ⟨(by rw [ha.out]; exact putSel_upk 14 hb_ rfl rfl rfl), Q_HBr⟩
        refine steps_cons ?_ ?_
        · rintro b a w' ⟨ha, Q_HBr⟩ hb_ hon hoff
          refine ⟨_, rfl, fun K hK => ?_⟩
          have e33 : a.tmps[33]? = some (.bool true) := by rw [ha]; exact putSel_on (e := (7, 33, .bool true)) 7 rfl rfl (hon 7 (by kernel_rfl)) rfl
          have e40 : a.tmps[40]? = some (undef) := by rw [ha]; exact putSel_on (e := (14, 40, undef)) 14 rfl rfl (hon 14 (by kernel_rfl)) rfl
          have e30 : a.tmps[30]? = some (.bool true) := by rw [ha]; exact putSel_on (e := (4, 30, .bool true)) 4 rfl rfl (hon 4 (by kernel_rfl)) rfl
          replace ha := Aside0.mk ha
          have HBr := Aside0.mk Q_HBr
          refine value_ (w1 := w') (v := .bool true) (wanted_on rfl rfl rfl (e30.trans (by first | rfl | (simp [*]; done)))) rfl ?_ ?_
          · go_simp
            (try simp only [i64_w])
            try rfl
          refine hK.out _ _ ⟨(by rw [ha.out]; exact putSel_upk 15 hb_ rfl rfl rfl), Q_HBr⟩
        refine steps_cons ?_ ?_
        · rintro b a w' ⟨ha, Q_HBr⟩ hb_ hon hoff
          refine ⟨_, rfl, fun K hK => ?_⟩
          have e30 : a.tmps[30]? = some (.bool true) := by rw [ha]; exact putSel_on (e := (4, 30, .bool true)) 4 rfl rfl (hon 4 (by kernel_rfl)) rfl
          have e41 : a.tmps[41]? = some (.bool true) := by rw [ha]; exact putSel_on (e := (15, 41, .bool true)) 15 rfl rfl (hon 15 (by kernel_rfl)) rfl
          replace ha := Aside0.mk ha
          have HBr := Aside0.mk Q_HBr
          refine value_ (w1 := w') (v := .bool true) (by rfl) rfl ?_ ?_
          · go_simp
            (try simp only [i64_w])
            try rfl
          refine hK.out _ _ ⟨(by rw [ha.out]; exact putSel_upk 16 hb_ rfl rfl rfl), Q_HBr⟩
        refine steps_cons ?_ ?_
        · rintro b a w' ⟨ha, Q_HBr⟩ hb_ hon hoff
          refine ⟨_, rfl, fun K hK => ?_⟩
          have e42 : a.tmps[42]? = some (.bool true) := by rw [ha]; exact putSel_on (e := (16, 42, .bool true)) 16 rfl rfl (hon 16 (by kernel_rfl)) rfl
          replace ha := Aside0.mk ha
          have HBr := Aside0.mk Q_HBr
          refine value_ (w1 := w') (v := .bool true) (by rfl) rfl ?_ ?_
          · go_simp
            (try simp only [i64_w])
            try rfl
          refine hK.out _ _ ⟨(by rw [ha.out]; exact putSel_upk 17 hb_ rfl rfl rfl), Q_HBr⟩
        exact steps_nil
      rintro b a w' hall ⟨ha, Q_HBr⟩
      clear HBr
      have hb0_ := hall 0 (by kernel_rfl)
      have hb1_ := hall 1 (by kernel_rfl)
      have hb2_ := hall 2 (by kernel_rfl)
      have hb3_ := hall 3 (by kernel_rfl)
      have hb4_ := hall 4 (by kernel_rfl)
      have hb5_ := hall 5 (by kernel_rfl)
      have hb6_ := hall 6 (by kernel_rfl)
      have hb7_ := hall 7 (by kernel_rfl)
      have hb8_ := hall 8 (by kernel_rfl)
      have hb9_ := hall 9 (by kernel_rfl)
      have hb10_ := hall 10 (by kernel_rfl)
      have hb11_ := hall 11 (by kernel_rfl)
      have hb12_ := hall 12 (by kernel_rfl)
      have hb13_ := hall 13 (by kernel_rfl)
      have hb14_ := hall 14 (by kernel_rfl)
      have hb15_ := hall 15 (by kernel_rfl)
      have hb16_ := hall 16 (by kernel_rfl)
      have hb17_ := hall 17 (by kernel_rfl)
      subst ha
      simp only [putSel, hb0_, hb1_, hb2_, hb3_, hb4_, hb5_, hb6_, hb7_, hb8_, hb9_, hb10_, hb11_, hb12_, hb13_, hb14_, hb15_, hb16_, hb17_, if_true, Act.put, List.setIfInBounds_toArray, List.set_cons_zero, List.set_cons_succ]
      have HBr := Aside0.mk Q_HBr
      clear Q_HBr
      clear hall hb0_ hb1_ hb2_ hb3_ hb4_ hb5_ hb6_ hb7_ hb8_ hb9_ hb10_ hb11_ hb12_ hb13_ hb14_ hb15_ hb16_ hb17_
      go_wp2
      go_ret
      exact ⟨rfl, below_step HB.out HBr.out⟩
  · obtain ⟨gv, pv, rfl, hgv⟩ := hv
    have x0 : (w3.alloc (o50 y)).cell? ⟨w2.heap.size, 0, none⟩ = some (.int .i64 0) := (blk_cell XX.out 0).trans rfl
    have x1 : (w3.alloc (o50 y)).cell? ⟨w2.heap.size, 1, none⟩ = some (.int .i64 0) := (blk_cell XX.out 1).trans rfl
    have x2 : (w3.alloc (o50 y)).cell? ⟨w2.heap.size, 2, none⟩ = some (.int .i64 0) := (blk_cell XX.out 2).trans rfl
    have x3 : (w3.alloc (o50 y)).cell? ⟨w2.heap.size, 3, none⟩ = some (.int .i64 0) := (blk_cell XX.out 3).trans rfl
    have x4 : (w3.alloc (o50 y)).cell? ⟨w2.heap.size, 4, none⟩ = some (.bool false) := (blk_cell XX.out 4).trans rfl
    clear ht XS XT XX XY hgv
    go_wp2
    go_ret
    exact ⟨rfl, HB.out⟩
end Go.Proofs.YtcnhjbpgjemnhaaDoor.Bd
