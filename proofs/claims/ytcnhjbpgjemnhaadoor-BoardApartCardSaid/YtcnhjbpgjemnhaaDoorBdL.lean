/- BoardApart: the walk. -/
import Derived.Test.YtcnhjbpgjemnhaaDoorBdK
import Derived.Test.YtcnhjbpgjemnhaaDoorWInvWords
namespace Go.Proofs.YtcnhjbpgjemnhaaDoor.Bd
open Go.RowKit Go.Proofs.YtcnhjbpgjemnhaaDoorW.PrintWords Go.Proofs.YtcnhjbpgjemnhaaDoorW.PrintLast Go.Proofs.YtcnhjbpgjemnhaaDoorW.PrintMore Go.Proofs.YtcnhjbpgjemnhaaDoor.X
set_option linter.unusedVariables false
set_option linter.unusedSimpArgs false

theorem eqA22 (d : Nat) (w : World) (x0 y0 x1 y1 x2 y2 : Int) : (Op.equalIn (d + 2) 22 (.agg #[.int .i64 x0, .int .i64 x1, .int .i64 x2]) (.agg #[.int .i64 y0, .int .i64 y1, .int .i64 y2])).run Tryd.prog w = .ok (x0 == y0 && (x1 == y1 && x2 == y2)) w := by
  have hu := Tryd.underlying22
  have h3 := Tryd.underlying3
  have hp : Tryd.prog.stoodInHeld 22 = false := by kernel_rfl
  rw [Op.equalIn]
  simp [go_sem, hu, hp, h3, List.range']
  by_cases h0 : x0 = y0 <;> by_cases h1 : x1 = y1 <;> by_cases h2 : x2 = y2 <;> simp_all
attribute [local go_sem high] eqA25 eqA48 eqA50 eqA22
theorem place_spec (a b c : Int) (h : 0 ≤ placeF a b c) : (0 ≤ c ∧ c < 24 ∧ placeF a b c = c ∧ nameF a b c = (0, 0, c)) ∨ (0 ≤ b ∧ b < 6 ∧ 0 ≤ c ∧ c < 9 ∧ placeF a b c = 25 + b * 9 + c ∧ nameF a b c = (1, b, c)) ∨
    (0 ≤ b ∧ b < 6 ∧ placeF a b c = 79 + b ∧ nameF a b c = (2, b, 0)) ∨ (placeF a b c = 24 ∧ nameF a b c = (3, 0, 0)) := by
  obtain k | k | k | k := kind_cases a
  · rw [placeF0 a b c k] at h ⊢
    rw [nameF0 a b c k]
    unfold rootF at h ⊢
    split at h
    · rename_i q
      rw [if_pos q]
      exact .inl ⟨q.1, q.2, rfl, rfl⟩
    · omega
  · rw [placeF1 a b c k] at h ⊢
    rw [nameF1 a b c k]
    unfold keepF at h ⊢
    split at h
    · rename_i q
      rw [if_pos q]
      exact .inr (.inl ⟨q.1.1, q.1.2, q.2.1, q.2.2, rfl, rfl⟩)
    · omega
  · rw [placeF2 a b c k] at h ⊢
    rw [nameF2 a b c k]
    unfold spanF at h ⊢
    split at h
    · rename_i q
      rw [if_pos q]
      exact .inr (.inr (.inl ⟨q.1, q.2, rfl, rfl⟩))
    · omega
  · rw [placeF3 a b c k, nameF3 a b c k]
    exact .inr (.inr (.inr ⟨rfl, rfl⟩))
theorem apart_law (a b c a' b' c' : Int) (h : 0 ≤ placeF a b c) (h' : 0 ≤ placeF a' b' c') : placeF a b c = placeF a' b' c' ↔ nameF a b c = nameF a' b' c' := by
  rcases place_spec a b c h with ⟨p1, p2, e, n⟩ | ⟨p1, p2, p3, p4, e, n⟩ | ⟨p1, p2, e, n⟩ | ⟨e, n⟩ <;> rcases place_spec a' b' c' h' with ⟨q1, q2, e', n'⟩ | ⟨q1, q2, q3, q4, e', n'⟩ | ⟨q1, q2, e', n'⟩ | ⟨e', n'⟩ <;> rw [e, n, e', n', Prod.mk.injEq, Prod.mk.injEq] <;> omega
def apartL.T7 : Bool × List (List Nat × List Nat) := (true, [([], []), ([], []), ([0, 1], [0, 1]), ([], []), ([3], [3]), ([], []), ([5, 4], [5]), ([4, 6], [4, 6]), ([2, 7], [2, 7]), ([8, 6, 0, 1, 2, 3, 4, 5, 6, 7, 8], [8])])
def apartL.B7 : List Nat := [0, 0, 3, 0, 8, 0, 56, 120, 255, 511]
theorem apartL.tab7 : rtab .any (opsOf Tryd.f3 7) = apartL.T7 := by kernel_rfl
theorem apartL.bits7 : waitsOk apartL.T7.2 apartL.B7 = true := by kernel_rfl
set_option maxHeartbeats 2000000 in
set_option maxRecDepth 100000 in
theorem apart_walk (i1 i2 i3 j1 j2 j3 : Int) (aA : Addr) (w : World) (hA : w.cell? gArg = some (Sent aA)) : Calls Tryd.prog 3 #[.agg #[.int .i64 i1, .int .i64 i2, .int .i64 i3], .agg #[.int .i64 j1, .int .i64 j2, .int .i64 j3]] w fun e w' => e = .returned (.bool true) ∧ Below w.heap.size w w' := by
  have hu := Tryd.underlying25
  have hu2 := Tryd.underlying22
  obtain ⟨oS, hoS⟩ : ∃ o : Obj, o = .cells #[.int .i64 i1, .int .i64 i2, .int .i64 i3] 22 := ⟨_, rfl⟩
  obtain ⟨oT, hoT⟩ : ∃ o : Obj, o = .cells #[.int .i64 j1, .int .i64 j2, .int .i64 j3] 22 := ⟨_, rfl⟩
  have hb0 := below_alloc (below_alloc (Below.refl w.heap.size w) oS) oT
  have y1 : ((w.alloc oS).alloc oT).heap[w.heap.size]? = some oS := blk_alloc (blk_new _ _) _
  have y2 : ((w.alloc oS).alloc oT).heap[w.heap.size + 1]? = some oT := by simpa using blk_new (w.alloc oS) oT
  rw [hoS, hoT] at y1 y2 hb0
  have hA1 := pw_cell_below hb0 hA
  have LAW := Aside0.mk (apart_law i1 i2 i3 j1 j2 j3)
  have HB0 := Aside0.mk hb0
  clear hb0
  have Y1 := Aside0.mk y1
  clear y1
  have Y2 := Aside0.mk y2
  clear y2
  clear hoS hoT oS oT
  go_enter Tryd.func3, Tryd.ntmps3
  go_wp2_with fail
  refine (awake_c aA _ hA1).mono ?_
  rintro e w1 ⟨rfl, hb1⟩
  have XS := Aside0.mk (blk_below hb1 Y1.out)
  have XT := Aside0.mk (blk_below hb1 Y2.out)
  have HB := Aside0.mk (below_step HB0.out hb1)
  clear hb1 HB0 Y1 Y2 hA1
  have x0 : w1.cell? ⟨w.heap.size, 0, none⟩ = some (.int .i64 i1) := (blk_cell XS.out 0).trans rfl
  have x1 : w1.cell? ⟨w.heap.size, 1, none⟩ = some (.int .i64 i2) := (blk_cell XS.out 1).trans rfl
  have x2 : w1.cell? ⟨w.heap.size, 2, none⟩ = some (.int .i64 i3) := (blk_cell XS.out 2).trans rfl
  go_wp2_with fail
  refine (place_s i1 i2 i3 aA _ (pw_cell_below HB.out hA)).mono ?_
  rintro e w2 ⟨m, v, rfl, R1, hb2⟩
  clear x0 x1 x2
  replace XS := Aside0.mk (blk_below hb2 XS.out)
  replace XT := Aside0.mk (blk_below hb2 XT.out)
  replace HB := Aside0.mk (below_step HB.out hb2)
  clear hb2
  have x0 : (w2.alloc (.cells #[.int .i64 0, .int .i64 0, .int .i64 m] 25)).cell? ⟨w.heap.size + 1, 0, none⟩ = some (.int .i64 j1) := (blk_cell (blk_alloc XT.out _) 0).trans rfl
  have x1 : (w2.alloc (.cells #[.int .i64 0, .int .i64 0, .int .i64 m] 25)).cell? ⟨w.heap.size + 1, 1, none⟩ = some (.int .i64 j2) := (blk_cell (blk_alloc XT.out _) 1).trans rfl
  have x2 : (w2.alloc (.cells #[.int .i64 0, .int .i64 0, .int .i64 m] 25)).cell? ⟨w.heap.size + 1, 2, none⟩ = some (.int .i64 j3) := (blk_cell (blk_alloc XT.out _) 2).trans rfl
  go_wp2_with fail
  refine (place_s j1 j2 j3 aA _ (pw_cell_below (below_alloc HB.out _) hA)).mono ?_
  rintro e w3 ⟨m', v', rfl, R2, hb3⟩
  clear x0 x1 x2
  have XX := Aside0.mk (blk_alloc (blk_below hb3 (blk_new w2 (.cells #[.int .i64 0, .int .i64 0, .int .i64 m] 25))) (.cells #[.int .i64 0, .int .i64 0, .int .i64 m'] 25))
  have XY := Aside0.mk (blk_new w3 (.cells #[.int .i64 0, .int .i64 0, .int .i64 m'] 25))
  replace XS := Aside0.mk (blk_alloc (blk_below hb3 (blk_alloc XS.out _)) (.cells #[.int .i64 0, .int .i64 0, .int .i64 m'] 25))
  replace XT := Aside0.mk (blk_alloc (blk_below hb3 (blk_alloc XT.out _)) (.cells #[.int .i64 0, .int .i64 0, .int .i64 m'] 25))
  replace HB := Aside0.mk (below_alloc (below_step (below_alloc HB.out _) hb3) (.cells #[.int .i64 0, .int .i64 0, .int .i64 m'] 25))
  clear hb3
  rcases R1 with ⟨k1, rfl, rfl⟩ | ⟨k3, k4, gv, pv, rfl, _⟩
  · rcases R2 with ⟨k2, rfl, rfl⟩ | ⟨k3, k4, gv, pv, rfl, _⟩
    · have HL := LAW.out k1 k2
      clear LAW k1 k2 hA
      by_cases hm : placeF i1 i2 i3 = placeF j1 j2 j3
      · have hq1 : (placeF i1 i2 i3 == placeF j1 j2 j3) = true := by simpa using hm
        have hn := HL.1 hm
        have hq2 : ((nameF i1 i2 i3).1 == (nameF j1 j2 j3).1 && ((nameF i1 i2 i3).2.1 == (nameF j1 j2 j3).2.1 && (nameF i1 i2 i3).2.2 == (nameF j1 j2 j3).2.2)) = true := by rw [hn]; simp
        clear hm hn HL
        go_wp2
        refine start_ (n := 10) (S := fun w' => True) (ds := []) #[false, false, false, false, false, false, false, false, false, false] (by kernel_rfl) rfl rfl trivial (fun hHeld => ?_)
        refine with_tabW apartL.tab7 apartL.bits7 (fun HT_ HW_ => ?_)
        have HBr := Aside0.mk (below_drew1 (Below.refl (w3.alloc (.cells #[.int .i64 0, .int .i64 0, .int .i64 (placeF j1 j2 j3)] 25)).heap.size (w3.alloc (.cells #[.int .i64 0, .int .i64 0, .int .i64 (placeF j1 j2 j3)] 25))))
        refine inv_at [0, 1, 2, 3, 4, 5, 6, 7, 8, 9] (fun a0_ b a w' => a = putSel a0_ b [(0, 27, .agg #[.int .i64 0, .int .i64 0, .int .i64 (placeF i1 i2 i3)]), (1, 28, .agg #[.int .i64 0, .int .i64 0, .int .i64 (placeF j1 j2 j3)]), (2, 29, .bool true), (3, 30, .agg #[.int .i64 i1, .int .i64 i2, .int .i64 i3]), (4, 31, .agg #[.int .i64 (nameF i1 i2 i3).1, .int .i64 (nameF i1 i2 i3).2.1, .int .i64 (nameF i1 i2 i3).2.2]), (5, 32, .agg #[.int .i64 j1, .int .i64 j2, .int .i64 j3]), (6, 33, .agg #[.int .i64 (nameF j1 j2 j3).1, .int .i64 (nameF j1 j2 j3).2.1, .int .i64 (nameF j1 j2 j3).2.2]), (7, 34, .bool true), (8, 35, .bool true), (9, 4, .bool true)] ∧ (Below (w3.alloc (.cells #[.int .i64 0, .int .i64 0, .int .i64 (placeF j1 j2 j3)] 25)).heap.size (w3.alloc (.cells #[.int .i64 0, .int .i64 0, .int .i64 (placeF j1 j2 j3)] 25)) w')) HT_.out HW_.out (by kernel_rfl) (by kernel_rfl) ?_ ?_ ?_
        · exact ⟨by simp only [putSel, Bool.false_eq_true, if_false], HBr.out⟩
        · skip
          clear HBr
          refine steps_cons ?_ ?_
          · rintro b a w' ⟨ha, Q_HBr⟩ hb_ hon hoff
            refine ⟨_, rfl, fun K hK => ?_⟩
            have e5 : a.tmps[5]? = some (.pointer (some ⟨w2.heap.size, 0, none⟩)) := by rw [ha]; exact (putSel_off rfl).trans rfl
            replace ha := Aside0.mk ha
            have HBr := Aside0.mk Q_HBr
            have z0_ : w'.cell? ⟨w2.heap.size, 0, none⟩ = some (.int .i64 0) := (blk_cell (blk_below HBr.out XX.out) 0).trans rfl
            have z1_ : w'.cell? ⟨w2.heap.size, 1, none⟩ = some (.int .i64 0) := (blk_cell (blk_below HBr.out XX.out) 1).trans rfl
            have z2_ : w'.cell? ⟨w2.heap.size, 2, none⟩ = some (.int .i64 (placeF i1 i2 i3)) := (blk_cell (blk_below HBr.out XX.out) 2).trans rfl
            refine value_ (w1 := w') (v := .agg #[.int .i64 0, .int .i64 0, .int .i64 (placeF i1 i2 i3)]) (by rfl) rfl ?_ ?_
            · go_simp
              (try simp only [i64_w])
              try rfl
            refine hK.out _ _ ⟨(by rw [ha.out]; exact putSel_upk 0 hb_ rfl rfl rfl), Q_HBr⟩
          refine steps_cons ?_ ?_
          · rintro b a w' ⟨ha, Q_HBr⟩ hb_ hon hoff
            refine ⟨_, rfl, fun K hK => ?_⟩
            have e7 : a.tmps[7]? = some (.pointer (some ⟨w3.heap.size, 0, none⟩)) := by rw [ha]; exact (putSel_off rfl).trans rfl
            replace ha := Aside0.mk ha
            have HBr := Aside0.mk Q_HBr
            have z0_ : w'.cell? ⟨w3.heap.size, 0, none⟩ = some (.int .i64 0) := (blk_cell (blk_below HBr.out XY.out) 0).trans rfl
            have z1_ : w'.cell? ⟨w3.heap.size, 1, none⟩ = some (.int .i64 0) := (blk_cell (blk_below HBr.out XY.out) 1).trans rfl
            have z2_ : w'.cell? ⟨w3.heap.size, 2, none⟩ = some (.int .i64 (placeF j1 j2 j3)) := (blk_cell (blk_below HBr.out XY.out) 2).trans rfl
            refine value_ (w1 := w') (v := .agg #[.int .i64 0, .int .i64 0, .int .i64 (placeF j1 j2 j3)]) (by rfl) rfl ?_ ?_
            · go_simp
              (try simp only [i64_w])
              try rfl
            refine hK.out _ _ ⟨(by rw [ha.out]; exact putSel_upk 1 hb_ rfl rfl rfl), Q_HBr⟩
          refine steps_cons ?_ ?_
          · rintro b a w' ⟨ha, Q_HBr⟩ hb_ hon hoff
            refine ⟨_, rfl, fun K hK => ?_⟩
            have e27 : a.tmps[27]? = some (.agg #[.int .i64 0, .int .i64 0, .int .i64 (placeF i1 i2 i3)]) := by rw [ha]; exact putSel_on (e := (0, 27, .agg #[.int .i64 0, .int .i64 0, .int .i64 (placeF i1 i2 i3)])) 0 rfl rfl (hon 0 (by kernel_rfl)) rfl
            have e28 : a.tmps[28]? = some (.agg #[.int .i64 0, .int .i64 0, .int .i64 (placeF j1 j2 j3)]) := by rw [ha]; exact putSel_on (e := (1, 28, .agg #[.int .i64 0, .int .i64 0, .int .i64 (placeF j1 j2 j3)])) 1 rfl rfl (hon 1 (by kernel_rfl)) rfl
            replace ha := Aside0.mk ha
            have HBr := Aside0.mk Q_HBr
            refine value_ (w1 := w') (v := .bool true) (by rfl) rfl ?_ ?_
            · go_simp
              (try simp only [i64_w])
              try rfl
            refine hK.out _ _ ⟨(by rw [ha.out]; exact putSel_upk 2 hb_ rfl rfl rfl), Q_HBr⟩
          refine steps_cons ?_ ?_
          · rintro b a w' ⟨ha, Q_HBr⟩ hb_ hon hoff
            refine ⟨_, rfl, fun K hK => ?_⟩
            have e2 : a.tmps[2]? = some (.pointer (some ⟨w.heap.size, 0, none⟩)) := by rw [ha]; exact (putSel_off rfl).trans rfl
            replace ha := Aside0.mk ha
            have HBr := Aside0.mk Q_HBr
            have z0_ : w'.cell? ⟨w.heap.size, 0, none⟩ = some (.int .i64 i1) := (blk_cell (blk_below HBr.out XS.out) 0).trans rfl
            have z1_ : w'.cell? ⟨w.heap.size, 1, none⟩ = some (.int .i64 i2) := (blk_cell (blk_below HBr.out XS.out) 1).trans rfl
            have z2_ : w'.cell? ⟨w.heap.size, 2, none⟩ = some (.int .i64 i3) := (blk_cell (blk_below HBr.out XS.out) 2).trans rfl
            refine value_ (w1 := w') (v := .agg #[.int .i64 i1, .int .i64 i2, .int .i64 i3]) (by rfl) rfl ?_ ?_
            · go_simp
              (try simp only [i64_w])
              try rfl
            refine hK.out _ _ ⟨(by rw [ha.out]; exact putSel_upk 3 hb_ rfl rfl rfl), Q_HBr⟩
          refine steps_cons ?_ ?_
          · rintro b a w' ⟨ha, Q_HBr⟩ hb_ hon hoff
            refine ⟨_, rfl, fun K hK => ?_⟩
            have e30 : a.tmps[30]? = some (.agg #[.int .i64 i1, .int .i64 i2, .int .i64 i3]) := by rw [ha]; exact putSel_on (e := (3, 30, .agg #[.int .i64 i1, .int .i64 i2, .int .i64 i3])) 3 rfl rfl (hon 3 (by kernel_rfl)) rfl
            replace ha := Aside0.mk ha
            have HBr := Aside0.mk Q_HBr
            refine goes_ Tryd.func10 (by kernel_rfl) rfl #[.agg #[.int .i64 i1, .int .i64 i2, .int .i64 i3]] (by rfl) rfl rfl (by first | (simp only [List.map_toArray, List.map_cons, List.map_nil, Act.eval, Array.getD_eq_getD_getElem?, Option.getD_some, e30]; done) | (simp only [List.map_toArray, List.map_cons, List.map_nil, Act.eval, Array.getD_eq_getD_getElem?, Option.getD_some, e30]; rfl)) ?_
            refine (name_c i1 i2 i3 _).mono ?_
            rintro e w1 ⟨rfl, hb1⟩
            refine ⟨_, rfl, ?_⟩
            refine hK.out _ _ ⟨(by rw [ha.out]; exact putSel_upk 4 hb_ rfl rfl rfl), below_step HBr.out hb1⟩
          refine steps_cons ?_ ?_
          · rintro b a w' ⟨ha, Q_HBr⟩ hb_ hon hoff
            refine ⟨_, rfl, fun K hK => ?_⟩
            have e3 : a.tmps[3]? = some (.pointer (some ⟨w.heap.size + 1, 0, none⟩)) := by rw [ha]; exact (putSel_off rfl).trans rfl
            replace ha := Aside0.mk ha
            have HBr := Aside0.mk Q_HBr
            have z0_ : w'.cell? ⟨w.heap.size + 1, 0, none⟩ = some (.int .i64 j1) := (blk_cell (blk_below HBr.out XT.out) 0).trans rfl
            have z1_ : w'.cell? ⟨w.heap.size + 1, 1, none⟩ = some (.int .i64 j2) := (blk_cell (blk_below HBr.out XT.out) 1).trans rfl
            have z2_ : w'.cell? ⟨w.heap.size + 1, 2, none⟩ = some (.int .i64 j3) := (blk_cell (blk_below HBr.out XT.out) 2).trans rfl
            refine value_ (w1 := w') (v := .agg #[.int .i64 j1, .int .i64 j2, .int .i64 j3]) (by rfl) rfl ?_ ?_
            · go_simp
              (try simp only [i64_w])
              try rfl
            refine hK.out _ _ ⟨(by rw [ha.out]; exact putSel_upk 5 hb_ rfl rfl rfl), Q_HBr⟩
          refine steps_cons ?_ ?_
          · rintro b a w' ⟨ha, Q_HBr⟩ hb_ hon hoff
            refine ⟨_, rfl, fun K hK => ?_⟩
            have e32 : a.tmps[32]? = some (.agg #[.int .i64 j1, .int .i64 j2, .int .i64 j3]) := by rw [ha]; exact putSel_on (e := (5, 32, .agg #[.int .i64 j1, .int .i64 j2, .int .i64 j3])) 5 rfl rfl (hon 5 (by kernel_rfl)) rfl
            replace ha := Aside0.mk ha
            have HBr := Aside0.mk Q_HBr
            refine goes_ Tryd.func10 (by kernel_rfl) rfl #[.agg #[.int .i64 j1, .int .i64 j2, .int .i64 j3]] (by rfl) rfl rfl (by first | (simp only [List.map_toArray, List.map_cons, List.map_nil, Act.eval, Array.getD_eq_getD_getElem?, Option.getD_some, e32]; done) | (simp only [List.map_toArray, List.map_cons, List.map_nil, Act.eval, Array.getD_eq_getD_getElem?, Option.getD_some, e32]; rfl)) ?_
            refine (name_c j1 j2 j3 _).mono ?_
            rintro e w1 ⟨rfl, hb1⟩
            refine ⟨_, rfl, ?_⟩
            refine hK.out _ _ ⟨(by rw [ha.out]; exact putSel_upk 6 hb_ rfl rfl rfl), below_step HBr.out hb1⟩
          refine steps_cons ?_ ?_
          · rintro b a w' ⟨ha, Q_HBr⟩ hb_ hon hoff
            refine ⟨_, rfl, fun K hK => ?_⟩
            have e31 : a.tmps[31]? = some (.agg #[.int .i64 (nameF i1 i2 i3).1, .int .i64 (nameF i1 i2 i3).2.1, .int .i64 (nameF i1 i2 i3).2.2]) := by rw [ha]; exact putSel_on (e := (4, 31, .agg #[.int .i64 (nameF i1 i2 i3).1, .int .i64 (nameF i1 i2 i3).2.1, .int .i64 (nameF i1 i2 i3).2.2])) 4 rfl rfl (hon 4 (by kernel_rfl)) rfl
            have e33 : a.tmps[33]? = some (.agg #[.int .i64 (nameF j1 j2 j3).1, .int .i64 (nameF j1 j2 j3).2.1, .int .i64 (nameF j1 j2 j3).2.2]) := by rw [ha]; exact putSel_on (e := (6, 33, .agg #[.int .i64 (nameF j1 j2 j3).1, .int .i64 (nameF j1 j2 j3).2.1, .int .i64 (nameF j1 j2 j3).2.2])) 6 rfl rfl (hon 6 (by kernel_rfl)) rfl
            replace ha := Aside0.mk ha
            have HBr := Aside0.mk Q_HBr
            refine value_ (w1 := w') (v := .bool true) (by rfl) rfl ?_ ?_
            · go_simp
              (try simp only [i64_w])
              try rfl
            refine hK.out _ _ ⟨(by rw [ha.out]; exact putSel_upk 7 hb_ rfl rfl rfl), Q_HBr⟩
          refine steps_cons ?_ ?_
          · rintro b a w' ⟨ha, Q_HBr⟩ hb_ hon hoff
            refine ⟨_, rfl, fun K hK => ?_⟩
            have e29 : a.tmps[29]? = some (.bool true) := by rw [ha]; exact putSel_on (e := (2, 29, .bool true)) 2 rfl rfl (hon 2 (by kernel_rfl)) rfl
            have e34 : a.tmps[34]? = some (.bool true) := by rw [ha]; exact putSel_on (e := (7, 34, .bool true)) 7 rfl rfl (hon 7 (by kernel_rfl)) rfl
            replace ha := Aside0.mk ha
            have HBr := Aside0.mk Q_HBr
            refine value_ (w1 := w') (v := .bool true) (by rfl) rfl ?_ ?_
            · go_simp
              (try simp only [i64_w])
              try rfl
            refine hK.out _ _ ⟨(by rw [ha.out]; exact putSel_upk 8 hb_ rfl rfl rfl), Q_HBr⟩
          refine steps_cons ?_ ?_
          · rintro b a w' ⟨ha, Q_HBr⟩ hb_ hon hoff
            refine ⟨_, rfl, fun K hK => ?_⟩
            have e35 : a.tmps[35]? = some (.bool true) := by rw [ha]; exact putSel_on (e := (8, 35, .bool true)) 8 rfl rfl (hon 8 (by kernel_rfl)) rfl
            replace ha := Aside0.mk ha
            have HBr := Aside0.mk Q_HBr
            refine value_ (w1 := w') (v := .bool true) (by rfl) rfl ?_ ?_
            · go_simp
              (try simp only [i64_w])
              try rfl
            refine hK.out _ _ ⟨(by rw [ha.out]; exact putSel_upk 9 hb_ rfl rfl rfl), Q_HBr⟩
          exact steps_nil
        rintro b a w' hall ⟨ha, Q_HBr⟩
        clear HBr
        have hb0_ := hall 0 (by kernel_rfl)
        have hb1_ := hall 1 (by kernel_rfl)
        have hb2_ := hall 2 (by kernel_rfl)
        have hb3_ := hall 3 (by kernel_rfl)
        have hb4_ := hall 4 (by kernel_rfl)
        have hb5_ := hall 5 (by kernel_rfl)
        have hb6_ := hall 6 (by kernel_rfl)
        have hb7_ := hall 7 (by kernel_rfl)
        have hb8_ := hall 8 (by kernel_rfl)
        have hb9_ := hall 9 (by kernel_rfl)
        subst ha
        simp only [putSel, hb0_, hb1_, hb2_, hb3_, hb4_, hb5_, hb6_, hb7_, hb8_, hb9_, if_true, Act.put, List.setIfInBounds_toArray, List.set_cons_zero, List.set_cons_succ]
        have HBr := Aside0.mk Q_HBr
        clear Q_HBr
        clear hall hb0_ hb1_ hb2_ hb3_ hb4_ hb5_ hb6_ hb7_ hb8_ hb9_
        go_wp2
        go_ret
        exact ⟨rfl, below_step HB.out HBr.out⟩
      · have hq1 : (placeF i1 i2 i3 == placeF j1 j2 j3) = false := by simpa using hm
        have hn : ¬ nameF i1 i2 i3 = nameF j1 j2 j3 := fun h => hm (HL.2 h)
        have hq2 : ((nameF i1 i2 i3).1 == (nameF j1 j2 j3).1 && ((nameF i1 i2 i3).2.1 == (nameF j1 j2 j3).2.1 && (nameF i1 i2 i3).2.2 == (nameF j1 j2 j3).2.2)) = false := by
          rw [Bool.eq_false_iff]
          intro h
          simp only [Bool.and_eq_true, beq_iff_eq] at h
          exact hn (Prod.ext h.1 (Prod.ext h.2.1 h.2.2))
        clear hm hn HL
        go_wp2
        refine start_ (n := 10) (S := fun w' => True) (ds := []) #[false, false, false, false, false, false, false, false, false, false] (by kernel_rfl) rfl rfl trivial (fun hHeld => ?_)
        refine with_tabW apartL.tab7 apartL.bits7 (fun HT_ HW_ => ?_)
        have HBr := Aside0.mk (below_drew1 (Below.refl (w3.alloc (.cells #[.int .i64 0, .int .i64 0, .int .i64 (placeF j1 j2 j3)] 25)).heap.size (w3.alloc (.cells #[.int .i64 0, .int .i64 0, .int .i64 (placeF j1 j2 j3)] 25))))
        refine inv_at [0, 1, 2, 3, 4, 5, 6, 7, 8, 9] (fun a0_ b a w' => a = putSel a0_ b [(0, 27, .agg #[.int .i64 0, .int .i64 0, .int .i64 (placeF i1 i2 i3)]), (1, 28, .agg #[.int .i64 0, .int .i64 0, .int .i64 (placeF j1 j2 j3)]), (2, 29, .bool false), (3, 30, .agg #[.int .i64 i1, .int .i64 i2, .int .i64 i3]), (4, 31, .agg #[.int .i64 (nameF i1 i2 i3).1, .int .i64 (nameF i1 i2 i3).2.1, .int .i64 (nameF i1 i2 i3).2.2]), (5, 32, .agg #[.int .i64 j1, .int .i64 j2, .int .i64 j3]), (6, 33, .agg #[.int .i64 (nameF j1 j2 j3).1, .int .i64 (nameF j1 j2 j3).2.1, .int .i64 (nameF j1 j2 j3).2.2]), (7, 34, .bool false), (8, 35, .bool true), (9, 4, .bool true)] ∧ (Below (w3.alloc (.cells #[.int .i64 0, .int .i64 0, .int .i64 (placeF j1 j2 j3)] 25)).heap.size (w3.alloc (.cells #[.int .i64 0, .int .i64 0, .int .i64 (placeF j1 j2 j3)] 25)) w')) HT_.out HW_.out (by kernel_rfl) (by kernel_rfl) ?_ ?_ ?_
        · exact ⟨by simp only [putSel, Bool.false_eq_true, if_false], HBr.out⟩
        · skip
          clear HBr
          refine steps_cons ?_ ?_
          · rintro b a w' ⟨ha, Q_HBr⟩ hb_ hon hoff
            refine ⟨_, rfl, fun K hK => ?_⟩
            have e5 : a.tmps[5]? = some (.pointer (some ⟨w2.heap.size, 0, none⟩)) := by rw [ha]; exact (putSel_off rfl).trans rfl
            replace ha := Aside0.mk ha
            have HBr := Aside0.mk Q_HBr
            have z0_ : w'.cell? ⟨w2.heap.size, 0, none⟩ = some (.int .i64 0) := (blk_cell (blk_below HBr.out XX.out) 0).trans rfl
            have z1_ : w'.cell? ⟨w2.heap.size, 1, none⟩ = some (.int .i64 0) := (blk_cell (blk_below HBr.out XX.out) 1).trans rfl
            have z2_ : w'.cell? ⟨w2.heap.size, 2, none⟩ = some (.int .i64 (placeF i1 i2 i3)) := (blk_cell (blk_below HBr.out XX.out) 2).trans rfl
            refine value_ (w1 := w') (v := .agg #[.int .i64 0, .int .i64 0, .int .i64 (placeF i1 i2 i3)]) (by rfl) rfl ?_ ?_
            · go_simp
              (try simp only [i64_w])
              try rfl
            refine hK.out _ _ ⟨(by rw [ha.out]; exact putSel_upk 0 hb_ rfl rfl rfl), Q_HBr⟩
          refine steps_cons ?_ ?_
          · rintro b a w' ⟨ha, Q_HBr⟩ hb_ hon hoff
            refine ⟨_, rfl, fun K hK => ?_⟩
            have e7 : a.tmps[7]? = some (.pointer (some ⟨w3.heap.size, 0, none⟩)) := by rw [ha]; exact (putSel_off rfl).trans rfl
            replace ha := Aside0.mk ha
            have HBr := Aside0.mk Q_HBr
            have z0_ : w'.cell? ⟨w3.heap.size, 0, none⟩ = some (.int .i64 0) := (blk_cell (blk_below HBr.out XY.out) 0).trans rfl
            have z1_ : w'.cell? ⟨w3.heap.size, 1, none⟩ = some (.int .i64 0) := (blk_cell (blk_below HBr.out XY.out) 1).trans rfl
            have z2_ : w'.cell? ⟨w3.heap.size, 2, none⟩ = some (.int .i64 (placeF j1 j2 j3)) := (blk_cell (blk_below HBr.out XY.out) 2).trans rfl
            refine value_ (w1 := w') (v := .agg #[.int .i64 0, .int .i64 0, .int .i64 (placeF j1 j2 j3)]) (by rfl) rfl ?_ ?_
            · go_simp
              (try simp only [i64_w])
              try rfl
            refine hK.out _ _ ⟨(by rw [ha.out]; exact putSel_upk 1 hb_ rfl rfl rfl), Q_HBr⟩
          refine steps_cons ?_ ?_
          · rintro b a w' ⟨ha, Q_HBr⟩ hb_ hon hoff
            refine ⟨_, rfl, fun K hK => ?_⟩
            have e27 : a.tmps[27]? = some (.agg #[.int .i64 0, .int .i64 0, .int .i64 (placeF i1 i2 i3)]) := by rw [ha]; exact putSel_on (e := (0, 27, .agg #[.int .i64 0, .int .i64 0, .int .i64 (placeF i1 i2 i3)])) 0 rfl rfl (hon 0 (by kernel_rfl)) rfl
            have e28 : a.tmps[28]? = some (.agg #[.int .i64 0, .int .i64 0, .int .i64 (placeF j1 j2 j3)]) := by rw [ha]; exact putSel_on (e := (1, 28, .agg #[.int .i64 0, .int .i64 0, .int .i64 (placeF j1 j2 j3)])) 1 rfl rfl (hon 1 (by kernel_rfl)) rfl
            replace ha := Aside0.mk ha
            have HBr := Aside0.mk Q_HBr
            refine value_ (w1 := w') (v := .bool false) (by rfl) rfl ?_ ?_
            · go_simp
              (try simp only [i64_w])
              try rfl
            refine hK.out _ _ ⟨(by rw [ha.out]; exact putSel_upk 2 hb_ rfl rfl rfl), Q_HBr⟩
          refine steps_cons ?_ ?_
          · rintro b a w' ⟨ha, Q_HBr⟩ hb_ hon hoff
            refine ⟨_, rfl, fun K hK => ?_⟩
            have e2 : a.tmps[2]? = some (.pointer (some ⟨w.heap.size, 0, none⟩)) := by rw [ha]; exact (putSel_off rfl).trans rfl
            replace ha := Aside0.mk ha
            have HBr := Aside0.mk Q_HBr
            have z0_ : w'.cell? ⟨w.heap.size, 0, none⟩ = some (.int .i64 i1) := (blk_cell (blk_below HBr.out XS.out) 0).trans rfl
            have z1_ : w'.cell? ⟨w.heap.size, 1, none⟩ = some (.int .i64 i2) := (blk_cell (blk_below HBr.out XS.out) 1).trans rfl
            have z2_ : w'.cell? ⟨w.heap.size, 2, none⟩ = some (.int .i64 i3) := (blk_cell (blk_below HBr.out XS.out) 2).trans rfl
            refine value_ (w1 := w') (v := .agg #[.int .i64 i1, .int .i64 i2, .int .i64 i3]) (by rfl) rfl ?_ ?_
            · go_simp
              (try simp only [i64_w])
              try rfl
            refine hK.out _ _ ⟨(by rw [ha.out]; exact putSel_upk 3 hb_ rfl rfl rfl), Q_HBr⟩
          refine steps_cons ?_ ?_
          · rintro b a w' ⟨ha, Q_HBr⟩ hb_ hon hoff
            refine ⟨_, rfl, fun K hK => ?_⟩
            have e30 : a.tmps[30]? = some (.agg #[.int .i64 i1, .int .i64 i2, .int .i64 i3]) := by rw [ha]; exact putSel_on (e := (3, 30, .agg #[.int .i64 i1, .int .i64 i2, .int .i64 i3])) 3 rfl rfl (hon 3 (by kernel_rfl)) rfl
            replace ha := Aside0.mk ha
            have HBr := Aside0.mk Q_HBr
            refine goes_ Tryd.func10 (by kernel_rfl) rfl #[.agg #[.int .i64 i1, .int .i64 i2, .int .i64 i3]] (by rfl) rfl rfl (by first | (simp only [List.map_toArray, List.map_cons, List.map_nil, Act.eval, Array.getD_eq_getD_getElem?, Option.getD_some, e30]; done) | (simp only [List.map_toArray, List.map_cons, List.map_nil, Act.eval, Array.getD_eq_getD_getElem?, Option.getD_some, e30]; rfl)) ?_
            refine (name_c i1 i2 i3 _).mono ?_
            rintro e w1 ⟨rfl, hb1⟩
            refine ⟨_, rfl, ?_⟩
            refine hK.out _ _ ⟨(by rw [ha.out]; exact putSel_upk 4 hb_ rfl rfl rfl), below_step HBr.out hb1⟩
          refine steps_cons ?_ ?_
          · rintro b a w' ⟨ha, Q_HBr⟩ hb_ hon hoff
            refine ⟨_, rfl, fun K hK => ?_⟩
            have e3 : a.tmps[3]? = some (.pointer (some ⟨w.heap.size + 1, 0, none⟩)) := by rw [ha]; exact (putSel_off rfl).trans rfl
            replace ha := Aside0.mk ha
            have HBr := Aside0.mk Q_HBr
            have z0_ : w'.cell? ⟨w.heap.size + 1, 0, none⟩ = some (.int .i64 j1) := (blk_cell (blk_below HBr.out XT.out) 0).trans rfl
            have z1_ : w'.cell? ⟨w.heap.size + 1, 1, none⟩ = some (.int .i64 j2) := (blk_cell (blk_below HBr.out XT.out) 1).trans rfl
            have z2_ : w'.cell? ⟨w.heap.size + 1, 2, none⟩ = some (.int .i64 j3) := (blk_cell (blk_below HBr.out XT.out) 2).trans rfl
            refine value_ (w1 := w') (v := .agg #[.int .i64 j1, .int .i64 j2, .int .i64 j3]) (by rfl) rfl ?_ ?_
            · go_simp
              (try simp only [i64_w])
              try rfl
            refine hK.out _ _ ⟨(by rw [ha.out]; exact putSel_upk 5 hb_ rfl rfl rfl), Q_HBr⟩
          refine steps_cons ?_ ?_
          · rintro b a w' ⟨ha, Q_HBr⟩ hb_ hon hoff
            refine ⟨_, rfl, fun K hK => ?_⟩
            have e32 : a.tmps[32]? = some (.agg #[.int .i64 j1, .int .i64 j2, .int .i64 j3]) := by rw [ha]; exact putSel_on (e := (5, 32, .agg #[.int .i64 j1, .int .i64 j2, .int .i64 j3])) 5 rfl rfl (hon 5 (by kernel_rfl)) rfl
            replace ha := Aside0.mk ha
            have HBr := Aside0.mk Q_HBr
            refine goes_ Tryd.func10 (by kernel_rfl) rfl #[.agg #[.int .i64 j1, .int .i64 j2, .int .i64 j3]] (by rfl) rfl rfl (by first | (simp only [List.map_toArray, List.map_cons, List.map_nil, Act.eval, Array.getD_eq_getD_getElem?, Option.getD_some, e32]; done) | (simp only [List.map_toArray, List.map_cons, List.map_nil, Act.eval, Array.getD_eq_getD_getElem?, Option.getD_some, e32]; rfl)) ?_
            refine (name_c j1 j2 j3 _).mono ?_
            rintro e w1 ⟨rfl, hb1⟩
            refine ⟨_, rfl, ?_⟩
            refine hK.out _ _ ⟨(by rw [ha.out]; exact putSel_upk 6 hb_ rfl rfl rfl), below_step HBr.out hb1⟩
          refine steps_cons ?_ ?_
          · rintro b a w' ⟨ha, Q_HBr⟩ hb_ hon hoff
            refine ⟨_, rfl, fun K hK => ?_⟩
            have e31 : a.tmps[31]? = some (.agg #[.int .i64 (nameF i1 i2 i3).1, .int .i64 (nameF i1 i2 i3).2.1, .int .i64 (nameF i1 i2 i3).2.2]) := by rw [ha]; exact putSel_on (e := (4, 31, .agg #[.int .i64 (nameF i1 i2 i3).1, .int .i64 (nameF i1 i2 i3).2.1, .int .i64 (nameF i1 i2 i3).2.2])) 4 rfl rfl (hon 4 (by kernel_rfl)) rfl
            have e33 : a.tmps[33]? = some (.agg #[.int .i64 (nameF j1 j2 j3).1, .int .i64 (nameF j1 j2 j3).2.1, .int .i64 (nameF j1 j2 j3).2.2]) := by rw [ha]; exact putSel_on (e := (6, 33, .agg #[.int .i64 (nameF j1 j2 j3).1, .int .i64 (nameF j1 j2 j3).2.1, .int .i64 (nameF j1 j2 j3).2.2])) 6 rfl rfl (hon 6 (by kernel_rfl)) rfl
            replace ha := Aside0.mk ha
            have HBr := Aside0.mk Q_HBr
            refine value_ (w1 := w') (v := .bool false) (by rfl) rfl ?_ ?_
            · go_simp
              (try simp only [i64_w])
              try rfl
            refine hK.out _ _ ⟨(by rw [ha.out]; exact putSel_upk 7 hb_ rfl rfl rfl), Q_HBr⟩
          refine steps_cons ?_ ?_
          · rintro b a w' ⟨ha, Q_HBr⟩ hb_ hon hoff
            refine ⟨_, rfl, fun K hK => ?_⟩
            have e29 : a.tmps[29]? = some (.bool false) := by rw [ha]; exact putSel_on (e := (2, 29, .bool false)) 2 rfl rfl (hon 2 (by kernel_rfl)) rfl
            have e34 : a.tmps[34]? = some (.bool false) := by rw [ha]; exact putSel_on (e := (7, 34, .bool false)) 7 rfl rfl (hon 7 (by kernel_rfl)) rfl
            replace ha := Aside0.mk ha
            have HBr := Aside0.mk Q_HBr
            refine value_ (w1 := w') (v := .bool true) (by rfl) rfl ?_ ?_
            · go_simp
              (try simp only [i64_w])
              try rfl
            refine hK.out _ _ ⟨(by rw [ha.out]; exact putSel_upk 8 hb_ rfl rfl rfl), Q_HBr⟩
          refine steps_cons ?_ ?_
          · rintro b a w' ⟨ha, Q_HBr⟩ hb_ hon hoff
            refine ⟨_, rfl, fun K hK => ?_⟩
            have e35 : a.tmps[35]? = some (.bool true) := by rw [ha]; exact putSel_on (e := (8, 35, .bool true)) 8 rfl rfl (hon 8 (by kernel_rfl)) rfl
            replace ha := Aside0.mk ha
            have HBr := Aside0.mk Q_HBr
            refine value_ (w1 := w') (v := .bool true) (by rfl) rfl ?_ ?_
            · go_simp
              (try simp only [i64_w])
              try rfl
            refine hK.out _ _ ⟨(by rw [ha.out]; exact putSel_upk 9 hb_ rfl rfl rfl), Q_HBr⟩
          exact steps_nil
        rintro b a w' hall ⟨ha, Q_HBr⟩
        clear HBr
        have hb0_ := hall 0 (by kernel_rfl)
        have hb1_ := hall 1 (by kernel_rfl)
        have hb2_ := hall 2 (by kernel_rfl)
        have hb3_ := hall 3 (by kernel_rfl)
        have hb4_ := hall 4 (by kernel_rfl)
        have hb5_ := hall 5 (by kernel_rfl)
        have hb6_ := hall 6 (by kernel_rfl)
        have hb7_ := hall 7 (by kernel_rfl)
        have hb8_ := hall 8 (by kernel_rfl)
        have hb9_ := hall 9 (by kernel_rfl)
        subst ha
        simp only [putSel, hb0_, hb1_, hb2_, hb3_, hb4_, hb5_, hb6_, hb7_, hb8_, hb9_, if_true, Act.put, List.setIfInBounds_toArray, List.set_cons_zero, List.set_cons_succ]
        have HBr := Aside0.mk Q_HBr
        clear Q_HBr
        clear hall hb0_ hb1_ hb2_ hb3_ hb4_ hb5_ hb6_ hb7_ hb8_ hb9_
        go_wp2
        go_ret
        exact ⟨rfl, below_step HB.out HBr.out⟩
    · clear XS XT XX XY LAW k3 k4
      go_wp2
      go_ret
      exact ⟨rfl, HB.out⟩
  · clear XS XT XX XY LAW R2 k3 k4
    go_wp2
    go_ret
    exact ⟨rfl, HB.out⟩
end Go.Proofs.YtcnhjbpgjemnhaaDoor.Bd
