/- lots: the document's Good, place, Kinds. -/
import Derived.Test.YtlcfkdglknkbdaaDoorLoT
namespace Go.Proofs.YtlcfkdglknkbdaaDoor.Lo
open Go.RowKit Go.Proofs.YtlcfkdglknkbdaaDoorW.PrintWords Go.Proofs.YtlcfkdglknkbdaaDoorW.PrintLast Go.Proofs.YtlcfkdglknkbdaaDoorW.PrintMore Go.Proofs.YtlcfkdglknkbdaaDoor.X
set_option linter.unusedVariables false
set_option linter.unusedSimpArgs false

theorem rkinds_c (st : Int) (h : 1 ≤ st ∧ st ≤ 5) (w : World) : Calls Tryd.prog 38 #[.int .i64 st] w fun e w' => ∃ g, e = .returned (.slice (some ⟨g, 0, none⟩) (kindsL st).length (kindsL st).length) ∧ (Kd.int .i64).C w' (some ⟨g, 0, none⟩) (kindsL st).length (kindsL st) ∧ Below w.heap.size w w' := by
  have hs : st = 1 ∨ st = 2 ∨ st = 3 ∨ st = 4 ∨ st = 5 := by omega
  rcases hs with rfl | rfl | rfl | rfl | rfl
  · go_enter Tryd.func38, Tryd.ntmps38
    go_wp2
    go_ret
    exact ⟨_, rfl, C_of_block (blk_new _ _) (Reps.cons (c := [_]) rfl rfl (Reps.cons (c := [_]) rfl rfl (Reps.cons (c := [_]) rfl rfl (Reps.none _ _)))) (by decide), below_alloc (Below.refl _ _) _⟩
  · go_enter Tryd.func38, Tryd.ntmps38
    go_wp2
    go_ret
    exact ⟨_, rfl, C_of_block (blk_new _ _) (Reps.cons (c := [_]) rfl rfl (Reps.cons (c := [_]) rfl rfl (Reps.none _ _))) (by decide), below_alloc (Below.refl _ _) _⟩
  all_goals
    go_enter Tryd.func38, Tryd.ntmps38
    go_wp2
    go_ret
    exact ⟨_, rfl, C_of_block (blk_new _ _) (Reps.cons (c := [_]) rfl rfl (Reps.cons (c := [_]) rfl rfl (Reps.cons (c := [_]) rfl rfl (Reps.none _ _)))) (by decide), below_alloc (Below.refl _ _) _⟩
theorem rplace_c (A : Option Addr) (c : Nat) (l : List Int) (k : Int) (w : World) (hl : (Kd.int .i64).C w A l.length l) (hm : k ∈ l) :
    Calls Tryd.prog 37 #[.slice A l.length c, .int .i64 k] w fun e w' => e = .returned (.int .i64 (idxI l k)) ∧ w' = w := by
  have hlen := Kd.C_max hl
  have HL := Aside0.mk hl
  clear hl
  have HM := Aside0.mk hm
  clear hm
  go_enter Tryd.func37, Tryd.ntmps37
  go_wp2
  go_loopw [5] (fun i wr => ∃ j : Nat, j ≤ l.length ∧ i = .int .i64 j ∧ wr = w ∧ k ∉ l.take j) (fun i _ => l.length - (intOf i).toNat)
  case atStart => exact ⟨0, Nat.zero_le _, rfl, rfl, by simp⟩
  case round =>
    obtain ⟨j, hkl, rfl, rfl, hs⟩ := hrel
    have HS := Aside0.mk hs
    clear hs
    by_cases hlt : j < l.length
    · obtain ⟨ad, eA, q0⟩ := Kd.at_int HL.out (j : Int) (by omega) (by omega)
      simp only [Int.toNat_natCast] at q0
      cases eA
      obtain ⟨y, hy⟩ : ∃ y, y = rd l (j : Int) := ⟨_, rfl⟩
      rw [← hy] at q0
      have hg : l.getD j 0 = y := by rw [hy, rd_getD]
      have h3 := take_snoc l 0 j hlt
      rw [hg] at h3
      have H3 := Aside0.mk h3
      clear h3
      have HY := Aside0.mk hy
      clear hy
      have HG := Aside0.mk hg
      clear hg
      by_cases hq : y = k
      · have h5 := idxI_at l j hlt k HS.out (by rw [HG.out, hq])
        have hqq : (y == k) = true := by simp [hq]
        have H5 := Aside0.mk h5
        clear hq h5
        go_wp2
        go_ret
        exact ⟨by rw [H5.out]; rfl, by first | trivial | rfl⟩
      · have hqq : (y == k) = false := by simp [hq]
        have HQ : Aside0 (¬ k = y) := Aside0.mk (fun e => hq e.symm)
        clear hq
        go_wp2
        go_roundw
        case rel => exact ⟨j + 1, by omega, by go_num, by first | trivial | rfl, by rw [H3.out]; simp only [List.mem_append, List.mem_singleton, not_or]; exact ⟨HS.out, HQ.out⟩⟩
        case measure => simp [intOf]; omega
    · exfalso
      have hk' : j = l.length := by omega
      subst hk'
      have hs := HS.out
      rw [List.take_length] at hs
      exact hs HM.out
/-- What stays while a script is looked at. -/
def RW (w wr : World) (x : S28) (A5 : Option Addr) (c5 : Nat) (A6 : Option Addr) (c6 : Nat) : Prop :=
  wr.heap[w.heap.size]? = some (.cells (scells x A5 c5 A6 c6) 28 (0, 0)) ∧ k37.C wr A5 x.f1.length x.f1 ∧ (Kd.int .i64).C wr A6 x.f2.length x.f2 ∧ Below w.heap.size w wr
theorem RW_below {w wr w1 : World} {x : S28} {A5 : Option Addr} {c5 : Nat} {A6 : Option Addr} {c6 : Nat} (h : RW w wr x A5 c5 A6 c6) (hb : Below wr.heap.size wr w1) : RW w w1 x A5 c5 A6 c6 := by
  obtain ⟨h1, h3, h4, h6⟩ := h
  exact ⟨blk_below hb h1, Kd.C_below h3 hb, Kd.C_below h4 hb, below_step h6 hb⟩
set_option maxHeartbeats 4000000 in
set_option maxRecDepth 100000 in
theorem rgood_c {u : Value} {x : S28} {w : World} (hu : SV w x u) :
    Calls Tryd.prog 17 #[u] w fun e w' => e = .returned (.bool (goodB x)) ∧ Below w.heap.size w w' := by
  obtain ⟨A5, c5, A6, c6, rfl, l5, p5, l6, p6⟩ := hu
  have h1 := Tryd.underlying24
  have h2 := Tryd.underlying28
  have h3 := Tryd.underlying37
  have h4 := Tryd.underlying35
  have m5 := Kd.C_max p5
  have m6 := Kd.C_max p6
  have hb := below_alloc (Below.refl w.heap.size w) (.cells (scells x A5 c5 A6 c6) 28)
  have hG : RW w (w.alloc (.cells (scells x A5 c5 A6 c6) 28)) x A5 c5 A6 c6 := ⟨blk_new _ _, Kd.C_below p5 hb, Kd.C_below p6 hb, hb⟩
  have HG := Aside0.mk hG
  clear hb hG p5 p6 l5 l6
  obtain ⟨b, hbb⟩ : ∃ b, b = okConf x.f0 := ⟨_, rfl⟩
  have HBB := Aside0.mk hbb
  clear hbb
  go_enter Tryd.func17, Tryd.ntmps17
  go_wp2_with fail
  refine (rconf_c _ _ _ _ _ _).mono ?_
  rintro e w1 ⟨rfl, hb⟩
  replace HG := Aside0.mk (RW_below HG.out hb)
  clear hb
  rw [show okConf ⟨x.f0.f0, x.f0.f1, x.f0.f2, x.f0.f3, x.f0.f4⟩ = b from HBB.out.symm]
  have hc5 := (blk_cell HG.out.1 5).trans rfl
  have hc6 := (blk_cell HG.out.1 6).trans rfl
  cases b
  · go_wp2
    go_ret
    exact ⟨ret_bool (by unfold goodB; rw [← HBB.out]; rfl), HG.out.2.2.2⟩
  · by_cases n5 : x.f1.length ≤ 64
    · have i5 : ¬ (x.f1.length : Int) > 64 := by omega
      by_cases n6 : x.f2.length ≤ 4096
      · have i6 : ¬ (x.f2.length : Int) > 4096 := by omega
        have HL5 := Aside0.mk n5
        have HL6 := Aside0.mk n6
        clear n5 n6
        go_wp2
        clear hc5 hc6 i5 i6
        go_loopw [3] (fun i wr => ∃ k : Nat, k ≤ x.f1.length ∧ i = .int .i64 k ∧ RW w wr x A5 c5 A6 c6 ∧ (x.f1.take k).all (goodT x) = true) (fun i _ => x.f1.length - (intOf i).toNat)
        case atStart => exact ⟨0, Nat.zero_le _, rfl, HG.out, rfl⟩
        case round =>
          obtain ⟨k, hk, rfl, hG, hs⟩ := hrel
          have HS := Aside0.mk hs
          replace HG := Aside0.mk hG
          clear hs hG
          have hc5 := (blk_cell HG.out.1 5).trans rfl
          by_cases hlt : k < x.f1.length
          · have P5 := Aside0.mk HG.out.2.1
            have hkb : k < 100 := by have := HL5.out; omega
            obtain ⟨ad, eA, q0, q1, q2, q3, q4⟩ := at_T37 P5.out (k : Int) (by omega) (by omega)
            simp only [Int.toNat_natCast] at q0 q1 q2 q3 q4
            cases eA
            obtain ⟨y, hy⟩ : ∃ y, y = rd_T37 x.f1 (k : Int) := ⟨_, rfl⟩
            rw [← hy] at q0 q1 q2 q3 q4
            have hsn := take_snoc x.f1 z37 k hlt
            rw [show x.f1.getD k z37 = y by rw [hy]; simp [rd_T37]] at hsn
            have hmem : y ∈ x.f1 := by rw [hy]; unfold rd_T37; simp [List.getD, hlt]
            have hno : goodT x y = false → goodB x = false := fun h => by unfold goodB; rw [show x.f1.all (goodT x) = false from List.all_eq_false.2 ⟨y, hmem, by rw [h]; decide⟩]; simp
            have hlk : (k : Int) < (x.f1.length : Int) := by omega
            have HSN := Aside0.mk hsn
            have HNO := Aside0.mk hno
            have HY := Aside0.mk hy
            clear hsn hmem hno hy P5
            have hb := below_alloc (Below.refl wr.heap.size wr) (.cells #[.int .i64 y.f0, .int .i64 y.f1.f0, .int .i64 y.f1.f1, .int .i64 y.f1.f2, .int .i64 y.f1.f3] 37)
            replace HG := Aside0.mk (RW_below HG.out hb)
            have hd0 := (blk_cell HG.out.1 0).trans rfl
            have hd2 := (blk_cell HG.out.1 2).trans rfl
            clear hb
            by_cases t0 : y.f0 < 0
            · have hn := HNO.out (by unfold goodT; rw [decide_eq_false (by omega)]; rfl)
              have HN := Aside0.mk hn
              clear hn
              go_wp2
              go_ret
              exact ⟨ret_bool (by rw [HN.out]), HG.out.2.2.2⟩
            · by_cases t1 : y.f0 ≥ x.f0.f2
              · have hn := HNO.out (by unfold goodT; rw [decide_eq_false (by omega)]; rfl)
                have HN := Aside0.mk hn
                clear hn
                go_wp2
                go_ret
                exact ⟨ret_bool (by rw [HN.out]), HG.out.2.2.2⟩
              · have HQ : Aside0 (decide (0 ≤ y.f0 ∧ y.f0 < x.f0.f2) = true) := Aside0.mk (decide_eq_true (by omega))
                go_wp2_with fail
                refine (rfits_c _ _ _ _ _ _).mono ?_
                rintro e w2 ⟨rfl, hb⟩
                replace HG := Aside0.mk (RW_below HG.out hb)
                clear hb hd0 hd2 hc5 q0 q1 q2 q3 q4
                cases hq2 : fits x.f0.f0 y.f1
                · have hn := HNO.out (by unfold goodT; rw [hq2]; simp)
                  have HN := Aside0.mk hn
                  clear hn hq2
                  go_wp2
                  go_ret
                  exact ⟨ret_bool (by rw [HN.out]), HG.out.2.2.2⟩
                · have hgt : goodT x y = true := by unfold goodT; rw [HQ.out, hq2]; rfl
                  have HGT := Aside0.mk hgt
                  clear hgt hq2
                  go_wp2
                  go_roundw
                  case rel => exact ⟨k + 1, by omega, by go_num, HG.out, by rw [HSN.out, List.all_append, HS.out]; simp [HGT.out]⟩
                  case measure => simp [intOf]; omega
          · obtain rfl : k = x.f1.length := by omega
            have hs := HS.out
            rw [List.take_length] at hs
            have HTG := Aside0.mk hs
            clear hs HS
            go_wp2
            clear hc5
            go_loopw [5] (fun i wr => ∃ k : Nat, k ≤ x.f2.length ∧ i = .int .i64 k ∧ RW w wr x A5 c5 A6 c6 ∧ ((x.f2.take k).all fun n => decide (0 ≤ n ∧ n < x.f0.f2)) = true) (fun i _ => x.f2.length - (intOf i).toNat)
            case atStart => exact ⟨0, Nat.zero_le _, rfl, HG.out, rfl⟩
            case round =>
              obtain ⟨k, hk, rfl, hG, hs⟩ := hrel
              have HS := Aside0.mk hs
              replace HG := Aside0.mk hG
              clear hs hG
              have hc6 := (blk_cell HG.out.1 6).trans rfl
              have hc2 := (blk_cell HG.out.1 2).trans rfl
              by_cases hlt : k < x.f2.length
              · have hkb : k < 5000 := by have := HL6.out; omega
                have hlk : (k : Int) < (x.f2.length : Int) := by omega
                obtain ⟨ad, eA, q0⟩ := Kd.at_int HG.out.2.2.1 (k : Int) (by omega) (by omega)
                simp only [Int.toNat_natCast] at q0
                cases eA
                obtain ⟨y, hy⟩ : ∃ y, y = rd x.f2 (k : Int) := ⟨_, rfl⟩
                rw [← hy] at q0
                have hsn := take_snoc x.f2 0 k hlt
                rw [show x.f2.getD k 0 = y by rw [hy, rd_getD]] at hsn
                have hmem : y ∈ x.f2 := by rw [hy, rd_getD]; simp [List.getD, hlt]
                have hno : ¬ (0 ≤ y ∧ y < x.f0.f2) → goodB x = false := fun h => by unfold goodB; rw [show (x.f2.all fun n => decide (0 ≤ n ∧ n < x.f0.f2)) = false from List.all_eq_false.2 ⟨y, hmem, by rw [decide_eq_false h]; decide⟩]; simp
                have HSN := Aside0.mk hsn
                have HNO := Aside0.mk hno
                clear hsn hmem hno hy
                by_cases t0 : y < 0
                · have hn := HNO.out (by omega)
                  have HN := Aside0.mk hn
                  clear hn
                  go_wp2
                  go_quiet (fail)
                  go_wp2
                  go_ret
                  exact ⟨ret_bool (by rw [HN.out]), pw_below_drewN HG.out.2.2.2 _⟩
                · by_cases t1 : y ≥ x.f0.f2
                  · have hn := HNO.out (by omega)
                    have HN := Aside0.mk hn
                    clear hn
                    go_wp2
                    go_quiet (fail)
                    go_wp2
                    go_ret
                    exact ⟨ret_bool (by rw [HN.out]), pw_below_drewN HG.out.2.2.2 _⟩
                  · have HQ : Aside0 (decide (0 ≤ y ∧ y < x.f0.f2) = true) := Aside0.mk (decide_eq_true (by omega))
                    go_wp2
                    go_quiet (fail)
                    go_wp2
                    go_roundw
                    case rel => exact ⟨k + 1, by omega, by go_num, RW_below HG.out (pw_below_drewN (Below.refl _ _) _), by rw [HSN.out, List.all_append, HS.out]; simpa using HQ.out⟩
                    case measure => simp [intOf]; omega
              · obtain rfl : k = x.f2.length := by omega
                have hs := HS.out
                rw [List.take_length] at hs
                have HPG := Aside0.mk hs
                clear hs HS
                go_wp2
                go_ret
                exact ⟨ret_bool (by unfold goodB; rw [HTG.out, HPG.out, ← HBB.out, decide_eq_true HL5.out, decide_eq_true HL6.out]; rfl), HG.out.2.2.2⟩
      · have i6 : (x.f2.length : Int) > 4096 := by omega
        have HL := Aside0.mk n6
        clear n6
        go_wp2
        go_ret
        exact ⟨ret_bool (by unfold goodB; simp [HL.out]), HG.out.2.2.2⟩
    · have i5 : (x.f1.length : Int) > 64 := by omega
      have HL := Aside0.mk n5
      clear n5
      go_wp2
      go_ret
      exact ⟨ret_bool (by unfold goodB; simp [HL.out]), HG.out.2.2.2⟩
end Go.Proofs.YtlcfkdglknkbdaaDoor.Lo
