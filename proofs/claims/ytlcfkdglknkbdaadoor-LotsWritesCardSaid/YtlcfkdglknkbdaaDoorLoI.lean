/- lots: Kinds, slices.Index: what they answer. -/
import Derived.Test.YtlcfkdglknkbdaaDoorLoH
namespace Go.Proofs.YtlcfkdglknkbdaaDoor.Lo
open Go.RowKit Go.Proofs.YtlcfkdglknkbdaaDoorW.PrintWords Go.Proofs.YtlcfkdglknkbdaaDoorW.PrintLast Go.Proofs.YtlcfkdglknkbdaaDoorW.PrintMore Go.Proofs.YtlcfkdglknkbdaaDoor.X
set_option linter.unusedVariables false
set_option linter.unusedSimpArgs false

def kindsL (st : Int) : List Int := if st = 1 then [1, 2, 3] else if st = 2 then [4, 5] else [6, 7, 8]
theorem kinds_c (st : Int) (h : 1 ≤ st ∧ st ≤ 5) (w : World) : Calls Tryd.prog 25 #[.int .i64 st] w fun e w' => ∃ g, e = .returned (.slice (some ⟨g, 0, none⟩) (kindsL st).length (kindsL st).length) ∧ (Kd.int .i64).C w' (some ⟨g, 0, none⟩) (kindsL st).length (kindsL st) ∧ Below w.heap.size w w' := by
  have hs : st = 1 ∨ st = 2 ∨ (st = 3 ∨ st = 4 ∨ st = 5) := by omega
  rcases hs with rfl | rfl | hs
  · refine (kinds_1 w).mono ?_
    rintro e w1 ⟨g, rfl, _, hb, hB⟩
    exact ⟨g, rfl, C_of_block hb (Reps.cons (c := [_]) rfl rfl (Reps.cons (c := [_]) rfl rfl (Reps.cons (c := [_]) rfl rfl (Reps.none _ _)))) (by decide), hB⟩
  · refine (kinds_2 w).mono ?_
    rintro e w1 ⟨g, rfl, _, hb, hB⟩
    exact ⟨g, rfl, C_of_block hb (Reps.cons (c := [_]) rfl rfl (Reps.cons (c := [_]) rfl rfl (Reps.none _ _))) (by decide), hB⟩
  · refine (kinds_3 st hs w).mono ?_
    rintro e w1 ⟨g, rfl, _, hb, hB⟩
    have hk : kindsL st = [6, 7, 8] := by unfold kindsL; rw [if_neg (by omega), if_neg (by omega)]
    rw [hk]
    exact ⟨g, rfl, C_of_block hb (Reps.cons (c := [_]) rfl rfl (Reps.cons (c := [_]) rfl rfl (Reps.cons (c := [_]) rfl rfl (Reps.none _ _)))) (by decide), hB⟩
/-- The place of the first that is so. -/
def idxI (l : List Int) (k : Int) : Int := if k ∈ l then (l.idxOf k : Int) else -1
theorem idxI_at (l : List Int) (i : Nat) (h : i < l.length) (k : Int) (hn : k ∉ l.take i) (hk : l.getD i 0 = k) : idxI l k = (i : Int) := by
  have hg : l[i] = k := by rw [← hk]; simp [List.getD, h]
  have hm : k ∈ l := by rw [← hg]; exact List.getElem_mem h
  unfold idxI
  rw [if_pos hm]
  have h1 : l = l.take i ++ k :: l.drop (i + 1) := by rw [← hg, ← List.drop_eq_getElem_cons h, List.take_append_drop]
  have h2 : l.idxOf k = i := by
    rw [h1, List.idxOf_append]
    rw [if_neg hn]
    simp
    omega
  rw [h2]
theorem index_c (A : Option Addr) (c : Nat) (l : List Int) (k : Int) (w : World) (hl : (Kd.int .i64).C w A l.length l) :
    Calls Tryd.prog 24 #[.slice A l.length c, .int .i64 k] w fun e w' => e = .returned (.int .i64 (idxI l k)) ∧ w' = w := by
  have hlen := Kd.C_max hl
  have HL := Aside0.mk hl
  clear hl
  go_enter Tryd.func24, Tryd.ntmps24
  go_wp2
  go_loopw [8] (fun i wr => ∃ j : Nat, j ≤ l.length ∧ i = .int .i64 j ∧ wr = w ∧ k ∉ l.take j) (fun i _ => l.length - (intOf i).toNat)
  case atStart => exact ⟨0, Nat.zero_le _, rfl, rfl, by simp⟩
  case round =>
    obtain ⟨j, hkl, rfl, rfl, hs⟩ := hrel
    have HS := Aside0.mk hs
    clear hs
    by_cases hlt : j < l.length
    · obtain ⟨ad, eA, q0⟩ := Kd.at_int HL.out (j : Int) (by omega) (by omega)
      simp only [Int.toNat_natCast] at q0
      cases eA
      obtain ⟨y, hy⟩ : ∃ y, y = rd l (j : Int) := ⟨_, rfl⟩
      rw [← hy] at q0
      have hg : l.getD j 0 = y := by rw [hy, rd_getD]
      have h3 := take_snoc l 0 j hlt
      rw [hg] at h3
      have H3 := Aside0.mk h3
      clear h3
      have HY := Aside0.mk hy
      clear hy
      have HG := Aside0.mk hg
      clear hg
      by_cases hq : k = y
      · have h5 := idxI_at l j hlt k HS.out (by rw [HG.out, hq])
        have hqq : (k == y) = true := by simp [hq]
        have H5 := Aside0.mk h5
        clear hq h5
        go_wp2
        go_ret
        exact ⟨by rw [H5.out]; rfl, by first | trivial | rfl⟩
      · have hqq : (k == y) = false := by simp [hq]
        have HQ := Aside0.mk hq
        clear hq
        go_wp2
        go_roundw
        case rel => exact ⟨j + 1, by omega, by go_num, by first | trivial | rfl, by rw [H3.out]; simp only [List.mem_append, List.mem_singleton, not_or]; exact ⟨HS.out, HQ.out⟩⟩
        case measure => simp [intOf]; omega
    · go_wp2
      go_ret
      have hk' : j = l.length := by omega
      subst hk'
      have hs := HS.out
      rw [List.take_length] at hs
      exact ⟨by unfold idxI; rw [if_neg hs]; rfl, by first | trivial | rfl⟩
end Go.Proofs.YtlcfkdglknkbdaaDoor.Lo
