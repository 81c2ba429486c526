/- lots: awake. -/
import Derived.Test.YtlcfkdglknkbdaaDoorLoK
namespace Go.Proofs.YtlcfkdglknkbdaaDoor.Lo
open Go.RowKit Go.Proofs.YtlcfkdglknkbdaaDoorW.PrintWords Go.Proofs.YtlcfkdglknkbdaaDoorW.PrintLast Go.Proofs.YtlcfkdglknkbdaaDoorW.PrintMore Go.Proofs.YtlcfkdglknkbdaaDoor.X
set_option linter.unusedVariables false
set_option linter.unusedSimpArgs false
attribute [local go_sem high] eqA37 eqA35 eqA24

def sB : ByteArray := ⟨#[4, 1, 1, 9, 2, 1, 5, 3, 7, 5, 2, 1]⟩
def aS : S28 := ⟨⟨1, 1, 1, 0, 1⟩, [], []⟩
def tS : S37 := ⟨1, ⟨6, 7, 5, 3⟩⟩
def bS : S28 := ⟨⟨5, 2, 2, 9, 3⟩, [tS], [0, 1]⟩
theorem dec_a : dec ⟨#[]⟩ = aS := by kernel_rfl
theorem dec_b : dec sB = bS := by kernel_rfl
theorem enc_b : encB bS = true := by kernel_rfl
theorem str_b : strOfNums (encL bS) = ⟨#[4, 1, 1, 9, 2, 1, 1, 0, 7, 5, 0, 1]⟩ := by kernel_rfl
theorem good_b : goodB bS = true := by kernel_rfl
theorem dec_s (s : ByteArray) (hs : s.size ≤ 40000) (w : World) : Calls Tryd.prog 9 #[.string s] w fun e w' => ∃ v, e = .returned v ∧ SV w' (dec s) v ∧ Below w.heap.size w w' := by
  refine (dec_c s hs w).mono ?_
  rintro e w1 ⟨cs, rfl, hK, hb⟩
  exact ⟨_, rfl, SV_of_K hK, hb⟩
theorem SV_lit (w : World) : SV w aS (.agg #[.int .i64 1, .int .i64 1, .int .i64 1, .int .i64 0, .int .i64 1, .slice none 0 0, .slice none 0 0]) := by
  obtain ⟨A5, c5, e5, l5, C5⟩ := Sl_nil k37 w
  obtain ⟨A6, c6, e6, l6, C6⟩ := Sl_nil (Kd.int .i64) w
  cases e5
  cases e6
  exact ⟨none, 0, none, 0, rfl, l5, C5, l6, C6⟩
theorem ad0 (ad : Addr) : ad.add 0 = ad := by
  obtain ⟨b, o, s⟩ := ad
  unfold Addr.add
  split <;> simp_all
set_option maxHeartbeats 4000000 in
set_option maxRecDepth 100000 in
theorem awake_c (aA : Addr) (w : World) (hA : w.cell? gArg = some (Sent aA)) : Calls Tryd.prog 8 #[] w fun e w' => e = .returned (.bool true) ∧ Below w.heap.size w w' := by
  have h1 := Tryd.underlying24
  have h2 := Tryd.underlying28
  have h3 := Tryd.underlying37
  have h4 := Tryd.underlying35
  have HA := Aside0.mk hA
  clear hA
  go_enter Tryd.func8, Tryd.ntmps8
  go_wp2_with fail
  refine (dec_s ⟨#[]⟩ (by decide) w).mono ?_
  rintro e w1 ⟨v, rfl, hv, hb⟩
  rw [dec_a] at hv
  obtain ⟨A5, c5, A6, c6, rfl, l5, C5, l6, C6⟩ := hv
  have hb1 := below_alloc (Below.refl w1.heap.size w1) (.cells (scells aS A5 c5 A6 c6) 28)
  have hX := blk_new w1 (.cells (scells aS A5 c5 A6 c6) 28)
  have HB := Aside0.mk (below_step hb hb1)
  have HA5 := Aside0.mk (Kd.C_below C5 hb1)
  have HA6 := Aside0.mk (Kd.C_below C6 hb1)
  have HX := Aside0.mk hX
  clear hb hb1 hX C5 C6
  go_wp2_with fail
  refine (dec_s sB (by decide) _).mono ?_
  rintro e w2 ⟨v, rfl, hv, hb⟩
  rw [dec_b] at hv
  obtain ⟨B5, d5, B6, d6, rfl, m5, D5, m6, D6⟩ := hv
  have hb1 := below_alloc (Below.refl w2.heap.size w2) (.cells (scells bS B5 d5 B6 d6) 28)
  have hY := blk_new w2 (.cells (scells bS B5 d5 B6 d6) 28)
  replace HX := Aside0.mk (blk_below hb1 (blk_below hb HX.out))
  replace HA5 := Aside0.mk (Kd.C_below (Kd.C_below HA5.out hb) hb1)
  replace HA6 := Aside0.mk (Kd.C_below (Kd.C_below HA6.out hb) hb1)
  replace HB := Aside0.mk (below_step (below_step HB.out hb) hb1)
  have HD5 := Aside0.mk (Kd.C_below D5 hb1)
  have HD6 := Aside0.mk (Kd.C_below D6 hb1)
  have HY := Aside0.mk hY
  clear hb hb1 hY D5 D6
  go_wp2_with fail
  refine (enc_c (x := bS) ⟨B5, d5, B6, d6, rfl, m5, HD5.out, m6, HD6.out⟩ aA (pw_cell_below HB.out HA.out)).mono ?_
  rintro e w4 ⟨s, v, rfl, he, _, hb⟩
  obtain ⟨rfl, rfl⟩ := he enc_b
  rw [str_b]
  replace HX := Aside0.mk (blk_below hb HX.out)
  replace HY := Aside0.mk (blk_below hb HY.out)
  replace HA5 := Aside0.mk (Kd.C_below HA5.out hb)
  replace HA6 := Aside0.mk (Kd.C_below HA6.out hb)
  replace HD5 := Aside0.mk (Kd.C_below HD5.out hb)
  replace HD6 := Aside0.mk (Kd.C_below HD6.out hb)
  replace HB := Aside0.mk (below_step HB.out hb)
  obtain ⟨ga, hga⟩ : ∃ z, z = w1.heap.size := ⟨_, rfl⟩
  obtain ⟨gb, hgb⟩ : ∃ z, z = w2.heap.size := ⟨_, rfl⟩
  rw [← hga] at HX ⊢
  rw [← hgb] at HY ⊢
  clear he hb hga hgb
  have x0 := (blk_cell HX.out 0).trans rfl
  have x1 := (blk_cell HX.out 1).trans rfl
  have x2 := (blk_cell HX.out 2).trans rfl
  have x3 := (blk_cell HX.out 3).trans rfl
  have x4 := (blk_cell HX.out 4).trans rfl
  have x5 := (blk_cell HX.out 5).trans rfl
  have x6 := (blk_cell HX.out 6).trans rfl
  go_wp2_with fail
  refine (rsame_c (x := aS) (y := aS) ⟨A5, c5, A6, c6, rfl, l5, HA5.out, l6, HA6.out⟩ (SV_lit _)).mono ?_
  rintro e w5 ⟨rfl, hb⟩
  rw [sameB_self]
  clear x0 x1 x2 x3 x4 x5 x6 HX HA5 HA6
  replace HY := Aside0.mk (blk_below hb HY.out)
  replace HD5 := Aside0.mk (Kd.C_below HD5.out hb)
  replace HD6 := Aside0.mk (Kd.C_below HD6.out hb)
  replace HB := Aside0.mk (below_step HB.out hb)
  clear hb
  have y5 : w5.cell? ⟨gb, 5, none⟩ = some (.slice B5 1 d5) := (blk_cell HY.out 5).trans rfl
  have y6 : w5.cell? ⟨gb, 6, none⟩ = some (.slice B6 2 d6) := (blk_cell HY.out 6).trans rfl
  obtain ⟨ad, eA, q0, q1, q2, q3, q4⟩ := at_T37 HD5.out 0 (by decide) (by decide)
  cases eA
  have hb1 := below_alloc (Below.refl w5.heap.size w5) (.cells #[.int .i64 0, .int .i64 1] 3)
  have hK := blk_new w5 (.cells #[.int .i64 0, .int .i64 1] 3)
  rw [show Int.toNat 0 * 5 = 0 from rfl, ad0] at q0 q1 q2 q3 q4
  change w5.cell? ad = some (.int .i64 1) at q0
  change w5.cell? ⟨ad.block, ad.off + 1, none⟩ = some (.int .i64 6) at q1
  change w5.cell? ⟨ad.block, ad.off + 2, none⟩ = some (.int .i64 7) at q2
  change w5.cell? ⟨ad.block, ad.off + 3, none⟩ = some (.int .i64 5) at q3
  change w5.cell? ⟨ad.block, ad.off + 4, none⟩ = some (.int .i64 3) at q4
  go_wp2_with fail
  refine (ints_c B6 d6 [0, 1] (some ⟨w5.heap.size, 0, none⟩) 2 [0, 1] _ (Kd.C_below HD6.out hb1) (C_of_block hK (Reps.cons (c := [_]) rfl rfl (Reps.cons (c := [_]) rfl rfl (Reps.none _ _))) (by decide))).mono ?_
  rintro e w6 ⟨rfl, hb⟩
  rw [show decide (([0, 1] : List Int) = [0, 1]) = true from rfl]
  replace HY := Aside0.mk (blk_below hb (blk_below hb1 HY.out))
  replace HD5 := Aside0.mk (Kd.C_below (Kd.C_below HD5.out hb1) hb)
  replace HD6 := Aside0.mk (Kd.C_below (Kd.C_below HD6.out hb1) hb)
  replace HB := Aside0.mk (below_step (below_step HB.out hb1) hb)
  clear hb hb1 hK q0 q1 q2 q3 q4 y5 y6
  have y0 := (blk_cell HY.out 0).trans rfl
  have y1 := (blk_cell HY.out 1).trans rfl
  have y2 := (blk_cell HY.out 2).trans rfl
  have y3 := (blk_cell HY.out 3).trans rfl
  have y4 := (blk_cell HY.out 4).trans rfl
  have y5 := (blk_cell HY.out 5).trans rfl
  have y6 := (blk_cell HY.out 6).trans rfl
  go_wp2_with fail
  refine (good_c (x := bS) ⟨_, d5, B6, d6, rfl, m5, HD5.out, m6, HD6.out⟩ aA (pw_cell_below HB.out HA.out)).mono ?_
  rintro e w7 ⟨rfl, hb⟩
  rw [good_b]
  replace HB := Aside0.mk (below_step HB.out hb)
  clear hb y0 y1 y2 y3 y4 y5 y6 HY HD5 HD6
  go_wp2
  go_ret
  exact ⟨rfl, HB.out⟩
end Go.Proofs.YtlcfkdglknkbdaaDoor.Lo
