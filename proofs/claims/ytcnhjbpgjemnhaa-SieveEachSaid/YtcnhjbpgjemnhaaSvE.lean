/- SieveEach: each note is judged by itself. -/
import Derived.Test.YtcnhjbpgjemnhaaSvD
import Derived.Test.YtcnhjbpgjemnhaaSvW
namespace Go.Proofs.Ytcnhjbpgjemnhaa.Sv
open Go.RowKit Go.Proofs.YtcnhjbpgjemnhaaW.PrintWords Go.Proofs.YtcnhjbpgjemnhaaW.PrintLast Go.Proofs.YtcnhjbpgjemnhaaW.PrintMore Go.Proofs.Ytcnhjbpgjemnhaa.X
set_option linter.unusedVariables false
set_option linter.unusedSimpArgs false
attribute [local go_sem ↓] Go.wp_at_zero Go.wp_at_succ

/-- Which notes stay, by the way's number. -/
def wayB (k : S27) (n : Int) : S39 → Bool := if n = 0 then slB k.f0 else if n = 1 then erB k.f1 else if n = 2 then spB k.f2 else epB k.f3
set_option maxHeartbeats 4000000 in
theorem freed_c (n : Int) (v : Value) (l : List S39) (k : S27) (A1 A2 A3 : Option Addr) (c1 c2 c3 : Nat) (w : World) (h : Sl k39 w v l) (hlim : l.length ≤ 1000000)
    (k1 : Kd.C k37 w A1 k.f0.length k.f0) (k2 : Kd.C (Kd.int .i64) w A2 k.f1.length k.f1) (k3 : Kd.C k41 w A3 k.f2.length k.f2) (hk : I64 k.f3) :
    Calls Try.prog 17 #[.int .i64 n, v, .agg #[.slice A1 k.f0.length c1, .slice A2 k.f1.length c2, .slice A3 k.f2.length c3, .int .i64 k.f3]] w (Two w l (wayB k n)) := by
  have hu27 := Try.underlying27
  have hb0 := below_alloc (Below.refl w.heap.size w) (.cells #[.slice A1 k.f0.length c1, .slice A2 k.f1.length c2, .slice A3 k.f2.length c3, .int .i64 k.f3] 27)
  unfold wayB
  have H := Aside0.mk h
  clear h
  have K1 := Aside0.mk k1
  clear k1
  have K2 := Aside0.mk k2
  clear k2
  have K3 := Aside0.mk k3
  clear k3
  have HB0 := Aside0.mk hb0
  clear hb0
  go_enter Try.func17, Try.ntmps17
  by_cases h0 : n = 0
  · subst h0
    go_wp2_with fail
    refine (Slots_s (Sl_below H.out HB0.out) hlim (Sc_mk (Kd.C_below K1.out HB0.out))).mono ?_
    rintro e w1 ⟨v1, v2, rfl, h1, h2, hb⟩
    go_wp2
    go_ret2
    exact ⟨_, _, rfl, h1, h2, below_step HB0.out hb⟩
  · by_cases h1 : n = 1
    · subst h1
      go_wp2_with fail
      refine (Eras_s (Sl_below H.out HB0.out) hlim (Sc_mk (Kd.C_below K2.out HB0.out))).mono ?_
      rintro e w1 ⟨v1, v2, rfl, h1, h2, hb⟩
      go_wp2
      go_ret2
      exact ⟨_, _, rfl, h1, h2, below_step HB0.out hb⟩
    · by_cases h2 : n = 2
      · subst h2
        go_wp2_with fail
        refine (Spans_s (Sl_below H.out HB0.out) hlim (Sc_mk (Kd.C_below K3.out HB0.out))).mono ?_
        rintro e w1 ⟨v1, v2, rfl, h1, h2, hb⟩
        go_wp2
        go_ret2
        exact ⟨_, _, rfl, h1, h2, below_step HB0.out hb⟩
      · rw [if_neg h0, if_neg h1, if_neg h2]
        go_wp2_with fail
        refine (Epochs_s (Sl_below H.out HB0.out) hlim hk).mono ?_
        rintro e w1 ⟨v1, v2, rfl, h1, h2, hb⟩
        go_wp2
        go_ret2
        exact ⟨_, _, rfl, h1, h2, below_step HB0.out hb⟩

set_option maxHeartbeats 4000000 in
set_option maxRecDepth 100000 in
theorem each_walk (A B : Option Addr) (c d : Nat) (a b : List S39) (k : S27) (A1 A2 A3 : Option Addr) (c1 c2 c3 : Nat) (w : World) (ca : Kd.C k39 w A a.length a) (hc : a.length ≤ c) (cb : Kd.C k39 w B b.length b) (hd : b.length ≤ d)
    (k1 : Kd.C k37 w A1 k.f0.length k.f0) (k2 : Kd.C (Kd.int .i64) w A2 k.f1.length k.f1) (k3 : Kd.C k41 w A3 k.f2.length k.f2) (hk : I64 k.f3) :
    Calls Try.prog 6 #[.slice A a.length c, .slice B b.length d, .agg #[.slice A1 k.f0.length c1, .slice A2 k.f1.length c2, .slice A3 k.f2.length c3, .int .i64 k.f3]] w fun e w' => e = .returned (.bool true) ∧ Below w.heap.size w w' := by
  have hu27 := Try.underlying27
  have hla := Kd.C_max ca
  have hlb := Kd.C_max cb
  have y1 : (w.alloc (.cells #[.slice A1 k.f0.length c1, .slice A2 k.f1.length c2, .slice A3 k.f2.length c3, .int .i64 k.f3] 27)).heap[w.heap.size]? = some (.cells #[.slice A1 k.f0.length c1, .slice A2 k.f1.length c2, .slice A3 k.f2.length c3, .int .i64 k.f3] 27 (0, 0)) := blk_new _ _
  have hb0 := below_alloc (Below.refl w.heap.size w) (.cells #[.slice A1 k.f0.length c1, .slice A2 k.f1.length c2, .slice A3 k.f2.length c3, .int .i64 k.f3] 27)
  have CA := Aside0.mk ca
  clear ca
  have CB := Aside0.mk cb
  clear cb
  have K1 := Aside0.mk k1
  clear k1
  have K2 := Aside0.mk k2
  clear k2
  have K3 := Aside0.mk k3
  clear k3
  have HB0 := Aside0.mk hb0
  clear hb0
  have Y1 := Aside0.mk y1
  clear y1
  go_enter Try.func6, Try.ntmps6
  go_wp2_with fail
  refine (awake_c _).mono ?_
  rintro e w2 ⟨rfl, hb1⟩
  have XK := Aside0.mk (blk_below hb1 Y1.out)
  have HB := Aside0.mk (below_step HB0.out hb1)
  clear hb1 HB0 Y1
  by_cases ha30 : a.length ≤ 30
  rotate_left
  · have h30 : (30 : Int) < (a.length : Int) := by omega
    go_wp2
    go_ret
    exact ⟨rfl, HB.out⟩
  by_cases hb30 : b.length ≤ 30
  rotate_left
  · have h30 : (30 : Int) < (b.length : Int) := by omega
    have h31 : ¬ (30 : Int) < (a.length : Int) := by omega
    go_wp2
    go_ret
    exact ⟨rfl, HB.out⟩
  have h31 : ¬ (30 : Int) < (a.length : Int) := by omega
  have h32 : ¬ (30 : Int) < (b.length : Int) := by omega
  have x_XK0 : w2.cell? ⟨w.heap.size, 0, none⟩ = some (.slice A1 k.f0.length c1) := (blk_cell XK.out 0).trans rfl
  have x_XK1 : w2.cell? ⟨w.heap.size, 1, none⟩ = some (.slice A2 k.f1.length c2) := (blk_cell XK.out 1).trans rfl
  have x_XK2 : w2.cell? ⟨w.heap.size, 2, none⟩ = some (.slice A3 k.f2.length c3) := (blk_cell XK.out 2).trans rfl
  have x_XK3 : w2.cell? ⟨w.heap.size, 3, none⟩ = some (.int .i64 k.f3) := (blk_cell XK.out 3).trans rfl
  go_wp2_with fail
  refine (great_c none 0 [] k A1 A2 A3 c1 c2 c3 _).mono ?_
  rintro e w3 ⟨rfl, hb⟩
  clear x_XK0 x_XK1 x_XK2 x_XK3
  replace XK := Aside0.mk (blk_below hb XK.out)
  replace HB := Aside0.mk (below_step HB.out hb)
  clear hb
  obtain ⟨g, hg⟩ : ∃ z, greatB [] k = z := ⟨_, rfl⟩
  rw [hg]
  cases g
  rotate_left
  · go_wp2
    go_ret
    exact ⟨rfl, HB.out⟩
  clear hg h31 h32
  go_wp2_with (first | ((with_reducible refine gate_builtin (b := .append) (xs := #[.tmp 29, .tmp 30]) rfl ?_); at_builtin; refine Kd.R_append_rows k39 (w0 := w3) w3.heap.size rfl (.tmp 29) (.tmp 30) 22 39 _ _ rfl Try.underlying22 info39 rfl (by decide) (by decide) (.slice (some ⟨w3.heap.size, 0, none⟩) 0 0) [] (a) _ _ _ (fun _ => True) (fun _ => False) (by first | (go_simp; done) | (go_simp; rfl)) (by first | (go_simp; done) | (go_simp; rfl)) (R_lit_alloc k39 39 w3 (Nat.le_refl _) (xs := []) (inner := []) (Reps.none _ _) (by simp)) (Kd.C_below CA.out (below_alloc HB.out _)) (fun _ _ h => h) (fun _ h => h.elim) (fun _ _ => trivial) (below_alloc (Below.refl _ _) _) (by simp) (by first | omega | (simp; omega)) ?_; intro va1 z1 hR1 hB1 hg1 hat1) | ((with_reducible refine gate_builtin (b := .append) (xs := #[.tmp 31, .tmp 32]) rfl ?_); at_builtin; refine Kd.R_append_rows k39 (w0 := w3) w3.heap.size rfl (.tmp 31) (.tmp 32) 22 39 _ _ rfl Try.underlying22 info39 rfl (by decide) (by decide) va1 (a) (b) _ _ _ (fun _ => True) (fun _ => False) (by first | (go_simp; done) | (go_simp; rfl)) (by first | (go_simp; done) | (go_simp; rfl)) hR1 (Kd.C_below CB.out (below_step HB.out hB1)) (fun _ _ h => h) (fun _ h => h.elim) (fun _ _ => trivial) hB1 (below_size hB1) (by first | omega | (simp; omega)) ?_; intro va2 z2 hR2 hB2 hg2 hat2))
  clear hR1 hB1 hg1 hat1 hg2 hat2
  have HB3 := Aside0.mk (below_step HB.out hB2)
  have XK3 := Aside0.mk (blk_below hB2 XK.out)
  have SA := Aside0.mk (Sl_R hR2)
  clear hR2 hB2
  go_loopw [8] (fun i wr => ∃ n : Nat, n ≤ 4 ∧ i = .int .i64 n ∧ Aside0 (Below w.heap.size w wr) ∧ Aside0 (wr.heap[w.heap.size]? = some (.cells #[.slice A1 k.f0.length c1, .slice A2 k.f1.length c2, .slice A3 k.f2.length c3, .int .i64 k.f3] 27 (0, 0))) ∧ Aside0 (Sl k39 wr va2 (a ++ b))) (fun i _ => 4 - (intOf i).toNat)
  case atStart => exact ⟨0, by omega, rfl, HB3, XK3, SA⟩
  case round =>
    clear HB XK HB3 XK3 SA
    obtain ⟨n, hn, rfl, HB, XK, SA⟩ := hrel
    obtain ⟨wo, rfl⟩ : ∃ wo : World, wo = wr := ⟨_, rfl⟩
    by_cases h4 : n = 4
    · subst h4
      go_wp2
      go_ret
      exact ⟨rfl, HB.out⟩
    have hn4 : (n : Int) < 4 := by omega
    have x_XK0 : wo.cell? ⟨w.heap.size, 0, none⟩ = some (.slice A1 k.f0.length c1) := (blk_cell XK.out 0).trans rfl
    have x_XK1 : wo.cell? ⟨w.heap.size, 1, none⟩ = some (.slice A2 k.f1.length c2) := (blk_cell XK.out 1).trans rfl
    have x_XK2 : wo.cell? ⟨w.heap.size, 2, none⟩ = some (.slice A3 k.f2.length c3) := (blk_cell XK.out 2).trans rfl
    have x_XK3 : wo.cell? ⟨w.heap.size, 3, none⟩ = some (.int .i64 k.f3) := (blk_cell XK.out 3).trans rfl
    go_wp2_with fail
    refine (freed_c (n : Int) _ a k A1 A2 A3 c1 c2 c3 _ (Sl_mk (Kd.C_below CA.out HB.out) hc) (by omega) (Kd.C_below K1.out HB.out) (Kd.C_below K2.out HB.out) (Kd.C_below K3.out HB.out) hk).mono ?_
    rintro e w4 ⟨X1_, X2_, rfl, RX, SX, hb⟩
    clear x_XK0 x_XK1 x_XK2 x_XK3
    replace XK := Aside0.mk (blk_below hb XK.out)
    replace SA := Aside0.mk (Sl_below SA.out hb)
    replace HB := Aside0.mk (below_step HB.out hb)
    clear hb
    replace RX := Aside0.mk RX
    replace SX := Aside0.mk SX
    clear SX
    have x_XK0 : w4.cell? ⟨w.heap.size, 0, none⟩ = some (.slice A1 k.f0.length c1) := (blk_cell XK.out 0).trans rfl
    have x_XK1 : w4.cell? ⟨w.heap.size, 1, none⟩ = some (.slice A2 k.f1.length c2) := (blk_cell XK.out 1).trans rfl
    have x_XK2 : w4.cell? ⟨w.heap.size, 2, none⟩ = some (.slice A3 k.f2.length c3) := (blk_cell XK.out 2).trans rfl
    have x_XK3 : w4.cell? ⟨w.heap.size, 3, none⟩ = some (.int .i64 k.f3) := (blk_cell XK.out 3).trans rfl
    go_wp2_with fail
    refine (freed_c (n : Int) _ b k A1 A2 A3 c1 c2 c3 _ (Sl_mk (Kd.C_below CB.out HB.out) hd) (by omega) (Kd.C_below K1.out HB.out) (Kd.C_below K2.out HB.out) (Kd.C_below K3.out HB.out) hk).mono ?_
    rintro e w5 ⟨Y1_, Y2_, rfl, RY, SY, hb⟩
    clear x_XK0 x_XK1 x_XK2 x_XK3
    replace XK := Aside0.mk (blk_below hb XK.out)
    replace SA := Aside0.mk (Sl_below SA.out hb)
    replace RX := Aside0.mk (Sl_below RX.out hb)
    replace HB := Aside0.mk (below_step HB.out hb)
    clear hb
    replace RY := Aside0.mk RY
    replace SY := Aside0.mk SY
    clear SY
    have x_XK0 : w5.cell? ⟨w.heap.size, 0, none⟩ = some (.slice A1 k.f0.length c1) := (blk_cell XK.out 0).trans rfl
    have x_XK1 : w5.cell? ⟨w.heap.size, 1, none⟩ = some (.slice A2 k.f1.length c2) := (blk_cell XK.out 1).trans rfl
    have x_XK2 : w5.cell? ⟨w.heap.size, 2, none⟩ = some (.slice A3 k.f2.length c3) := (blk_cell XK.out 2).trans rfl
    have x_XK3 : w5.cell? ⟨w.heap.size, 3, none⟩ = some (.int .i64 k.f3) := (blk_cell XK.out 3).trans rfl
    go_wp2_with fail
    refine (freed_c (n : Int) _ (a ++ b) k A1 A2 A3 c1 c2 c3 _ SA.out (by simp; omega) (Kd.C_below K1.out HB.out) (Kd.C_below K2.out HB.out) (Kd.C_below K3.out HB.out) hk).mono ?_
    rintro e w6 ⟨Z1_, Z2_, rfl, RZ, SZ, hb⟩
    clear x_XK0 x_XK1 x_XK2 x_XK3
    replace XK := Aside0.mk (blk_below hb XK.out)
    replace SA := Aside0.mk (Sl_below SA.out hb)
    replace RX := Aside0.mk (Sl_below RX.out hb)
    replace RY := Aside0.mk (Sl_below RY.out hb)
    replace HB := Aside0.mk (below_step HB.out hb)
    clear hb
    replace RZ := Aside0.mk RZ
    replace SZ := Aside0.mk SZ
    obtain ⟨p, hp⟩ : ∃ p, p = wayB k (n : Int) := ⟨_, rfl⟩
    rw [← hp] at RX RY RZ SZ
    clear hp
    have hfl := filter_lengths (a ++ b) p
    have hxa : (a.filter fun x => !p x).length ≤ a.length := List.length_filter_le _ _
    have hya : (b.filter fun x => !p x).length ≤ b.length := List.length_filter_le _ _
    obtain ⟨AX, nX, rfl, _, cX⟩ := RX.out
    obtain ⟨AY, nY, rfl, _, cY⟩ := RY.out
    have CX := Aside0.mk cX
    have CY := Aside0.mk cY
    clear cX cY RX RY
    go_wp2_with (first | ((with_reducible refine gate_builtin (b := .append) (xs := #[.tmp 59, .tmp 60]) rfl ?_); at_builtin; refine Kd.R_append_rows k39 (w0 := w6) w6.heap.size rfl (.tmp 59) (.tmp 60) 22 39 _ _ rfl Try.underlying22 info39 rfl (by decide) (by decide) (.slice (some ⟨w6.heap.size, 0, none⟩) 0 0) [] (a.filter fun x => !p x) _ _ _ (fun _ => True) (fun _ => False) (by first | (go_simp; done) | (go_simp; rfl)) (by first | (go_simp; done) | (go_simp; rfl)) (R_lit_alloc k39 39 w6 (Nat.le_refl _) (xs := []) (inner := []) (Reps.none _ _) (by simp)) (Kd.C_below CX.out (below_alloc (Below.refl _ _) _)) (fun _ _ h => h) (fun _ h => h.elim) (fun _ _ => trivial) (below_alloc (Below.refl _ _) _) (by simp) (by first | omega | (simp; omega)) ?_; intro vb1 z1 hR1 hB1 hg1 hat1) | ((with_reducible refine gate_builtin (b := .append) (xs := #[.tmp 61, .tmp 62]) rfl ?_); at_builtin; refine Kd.R_append_rows k39 (w0 := w6) w6.heap.size rfl (.tmp 61) (.tmp 62) 22 39 _ _ rfl Try.underlying22 info39 rfl (by decide) (by decide) vb1 (a.filter fun x => !p x) (b.filter fun x => !p x) _ _ _ (fun _ => True) (fun _ => False) (by first | (go_simp; done) | (go_simp; rfl)) (by first | (go_simp; done) | (go_simp; rfl)) hR1 (Kd.C_below CY.out hB1) (fun _ _ h => h) (fun _ h => h.elim) (fun _ _ => trivial) hB1 (below_size hB1) (by first | omega | (simp; omega)) ?_; intro vb2 z2 hR2 hB2 hg2 hat2))
    clear hR1 hB1 hg1 hat1 hg2 hat2
    refine (same_s (Sl_R hR2) (Sl_below RZ.out hB2)).mono ?_
    rintro e w9 ⟨rfl, hb⟩
    replace hb := below_step hB2 hb
    replace HB := Aside0.mk (below_step HB.out hb)
    replace XK := Aside0.mk (blk_below hb XK.out)
    replace SA := Aside0.mk (Sl_below SA.out hb)
    clear hb hR2 hB2
    have hap : ((a.filter fun x => !p x) ++ b.filter fun x => !p x) = ((a ++ b).filter fun x => !p x) := by simp [List.filter_append]
    rw [decide_eq_true hap]
    obtain ⟨AZ, nZ, rfl, _, _⟩ := RZ.out
    obtain ⟨AS, nS, rfl, _, _⟩ := SZ.out
    obtain ⟨AA, nA, rfl, hAA, cAA⟩ := SA.out
    clear SA
    have SA := Aside0.mk (Sl_mk cAA hAA)
    have hin : (((((a ++ b).filter fun x => !p x).length : Int) + (((a ++ b).filter p).length : Int)) != ((a ++ b).length : Int)) = false := by rw [bne_eq_false_iff_eq]; omega
    have hl2 : ((a ++ b).filter fun x => !p x).length ≤ (a ++ b).length := List.length_filter_le _ _
    have hl3 : ((a ++ b).filter p).length ≤ (a ++ b).length := List.length_filter_le _ _
    have hl4 : (a ++ b).length ≤ 60 := by simp; omega
    obtain ⟨ab, hab⟩ : ∃ z, z = a ++ b := ⟨_, rfl⟩
    rw [← hab] at hin hl2 hl3 hl4 SA ⊢
    replace hab := Aside0.mk hab
    clear hfl hap
    go_wp2
    go_roundw
    case rel => rw [hab.out] at SA ⊢; first | exact ⟨n + 1, by omega, by go_num, HB, XK, SA⟩ | ((repeat apply Exists.intro); exact ⟨⟨n + 1, by omega, by go_num, HB, XK, SA⟩, rfl⟩)
    case measure => simp [intOf]; omega
end Go.Proofs.Ytcnhjbpgjemnhaa.Sv
