/- WoeStrange's walk. -/
import Derived.Test.YtlednfddidpcdaaDoorWoF
namespace Go.Proofs.YtlednfddidpcdaaDoor.Wo
open Go.RowKit Go.Extern.Stop Go.Stop Go.Extern Go.Proofs.YtlednfddidpcdaaDoorW.PrintWords Go.Proofs.YtlednfddidpcdaaDoorW.PrintLast Go.Proofs.YtlednfddidpcdaaDoorW.PrintMore Go.Proofs.YtlednfddidpcdaaDoor.X
set_option linter.unusedVariables false
set_option linter.unusedSimpArgs false

theorem code_m (s : Nat → Addr) (b : Addr) (ps : List Int) (v : Value) (w : World) (hs : Sents w s) (hb : Blk w b) (hc : Ch w b ps v) (hno : ∀ k, k < 11 → b ≠ s (k + 1)) :
    Calls Tryd.prog 12 #[v] w fun e w' => e = .returned (.int .i64 (-1)) ∧ w' = w := by
  have := code_ch s b ps v w hs hb hc 11 (by omega) hno (fun h => by omega)
  rw [if_neg (by omega)] at this
  exact this
theorem new_c (t : ByteArray) (w : World) : Calls Tryd.prog 19 #[.string t] w fun e w' => ∃ g : Nat, e = .returned (Sent ⟨g, 0, none⟩) ∧ w.heap.size ≤ g ∧ w'.heap[g]? = some (.cells #[.string t] 57 (0, 0)) ∧ Below w.heap.size w w' := by
  go_enter Tryd.func19, Tryd.ntmps19
  go_wp2
  go_ret
  exact ⟨_, rfl, Nat.le_refl _, blk_new _ _, below_alloc (Below.refl _ _) _⟩
set_option maxHeartbeats 1000000 in
set_option maxRecDepth 100000 in
theorem strange_walk (s : Nat → Addr) (A0 : Option Addr) (c0 : Nat) (l0 : List Int) (W : World) (hs : Sents W s) (hC0 : Kd.C (Kd.int .i64) W A0 l0.length l0) (hl0 : l0.length ≤ c0) :
    Calls Tryd.prog 6 #[.slice A0 l0.length c0] W fun e w' => e = .returned (.bool true) ∧ Below W.heap.size W w' := by
  have hlen := Kd.C_max hC0
  have HA := awake_c s W hs
  have HS := Aside0.mk hs
  clear hs
  have HC0 := Aside0.mk hC0
  clear hC0
  go_enter Tryd.func6, Tryd.ntmps6
  go_wp2_with fail
  refine HA.mono ?_
  rintro e w1 ⟨rfl, hb⟩
  have HB := Aside0.mk hb
  clear hb HA
  by_cases g0 : 40 < l0.length
  · have g0' : (40 : Int) < (l0.length : Int) := by omega
    go_wp2
    go_ret
    exact ⟨rfl, HB.out⟩
  · have g0' : (l0.length : Int) ≤ 40 := by omega
    have g0'' : decide ((40 : Int) < (l0.length : Int)) = false := by simp; omega
    go_wp2_with fail
    refine (new_c _ w1).mono ?_
    rintro e w2 ⟨g, rfl, hg1, hg2, hb⟩
    obtain ⟨b, hbq⟩ : ∃ b : Addr, b = ⟨g, 0, none⟩ := ⟨_, rfl⟩
    have hblk : Blk w2 b := by rw [hbq]; exact ⟨_, _, hg2⟩
    have hno : ∀ k, k < 11 → b ≠ s (k + 1) := fun k hk e => by
      obtain ⟨c, t, hh⟩ := HS.out.blk k hk
      have h9 := blk_lt hh
      rw [← e, hbq] at h9
      have := HB.out.size
      simp at h9
      omega
    rw [← hbq]
    replace HB := Aside0.mk (below_step HB.out hb)
    clear hb hg1 hg2 hbq
    have HBLK := Aside0.mk hblk
    clear hblk
    have HNO := Aside0.mk hno
    clear hno
    go_wp2
    go_loopw [4, 5] (fun v i wr => ∃ k : Nat, k ≤ l0.length ∧ i = .int .i64 k ∧ Ch wr b (l0.take k).reverse v ∧ Below w2.heap.size w2 wr) (fun _ i _ => l0.length - (intOf i).toNat)
    case atStart => exact ⟨0, Nat.zero_le _, rfl, by rw [List.take_zero, List.reverse_nil]; exact Ch_nil _ _, Below.refl _ _⟩
    case round =>
      obtain ⟨k, hkl, rfl, hc, hb⟩ := hrel
      have HC := Aside0.mk hc
      have HBL := Aside0.mk (below_step HB.out hb)
      have HB2 := Aside0.mk hb
      clear hc hb
      by_cases hlt : k < l0.length
      · obtain ⟨ad, eA, q0⟩ := Kd.at_int HC0.out (k : Int) (by omega) (by omega)
        replace q0 := pw_cell_below HBL.out q0
        simp only [Int.toNat_natCast] at q0
        cases eA
        have hrv := rev_snoc l0 k hlt
        have HRV := Aside0.mk hrv
        clear hrv
        go_wp2_with fail
        refine (at_ch (rd l0 (k : Int)) HC.out).mono ?_
        rintro e w3 ⟨v3, rfl, hc3, hb3⟩
        have HC3 := Aside0.mk hc3
        have HB3 := Aside0.mk (below_step HB2.out hb3)
        clear hc3 hb3
        go_wp2
        go_roundw
        case rel => exact ⟨k + 1, by omega, by go_num, by rw [HRV.out]; exact HC3.out, HB3.out⟩
        case measure => simp [intOf]; omega
      · obtain rfl : k = l0.length := by omega
        have hc := HC.out
        rw [List.take_length] at hc
        have HC' := Aside0.mk hc
        have hbl := Blk_below HBLK.out HB2.out
        have hsx := HS.out.below HBL.out
        have hh := code_m s b [] (Sent b) wr hsx hbl (Ch_nil _ _) HNO.out
        have h2 := code_m s b _ _ wr hsx hbl hc HNO.out
        have h3 := is_yes hc hbl hbl rfl
        have h4 := is_no hc (hsx.blk 0 (by decide)) hbl (HNO.out 0 (by decide))
        have h5 := path_ch s b _ _ wr hsx hc (by rw [List.length_reverse]; omega)
        have hcell := hsx.cell 0 (by decide)
        simp only [Nat.zero_add] at hcell h4
        obtain ⟨T, x, rfl⟩ := Ch_shape hc
        clear hc HC hsx hbl HC'
        have HH := Aside0.mk hh
        clear hh
        have H2 := Aside0.mk h2
        clear h2
        have H3 := Aside0.mk h3
        clear h3
        have H4 := Aside0.mk h4
        clear h4
        have H5 := Aside0.mk h5
        clear h5
        go_wp2_with fail
        refine HH.out.mono ?_
        rintro e w4 ⟨rfl, rfl⟩
        clear HH
        go_wp2_with fail
        refine H2.out.mono ?_
        rintro e w5 ⟨rfl, rfl⟩
        clear H2
        go_wp2_with fail
        refine H3.out.mono ?_
        rintro e w6 ⟨rfl, rfl⟩
        clear H3
        go_wp2_with fail
        refine H4.out.mono ?_
        rintro e w7 ⟨rfl, rfl⟩
        clear H4
        go_wp2_with fail
        refine H5.out.mono ?_
        rintro e w8 ⟨u, rfl, hR, hb⟩
        replace HBL := Aside0.mk (below_step HBL.out hb)
        have hs8 := Sl_R hR
        have hh := back_c A0 c0 l0 w8 (Kd.C_below HC0.out HBL.out) (by omega)
        have HH := Aside0.mk hh
        clear hh
        have HS8 := Aside0.mk hs8
        clear hs8
        clear hR hb H5 hcell
        go_wp2_with fail
        refine HH.out.mono ?_
        rintro e w9 ⟨v9, rfl, hs9, hb⟩
        replace HBL := Aside0.mk (below_step HBL.out hb)
        have hh := ints_y (Sl_below HS8.out hb) hs9 rfl
        clear HH
        have HH := Aside0.mk hh
        clear hh
        clear hs9 hb HS8
        go_wp2_with fail
        refine HH.out.mono ?_
        rintro e w10 ⟨rfl, hb⟩
        replace HBL := Aside0.mk (below_step HBL.out hb)
        clear HH hb
        go_wp2_with fail
        refine (path_nil w10).mono ?_
        rintro e w11 ⟨rfl, hb⟩
        go_wp2
        go_ret
        exact ⟨rfl, below_step HBL.out hb⟩
end Go.Proofs.YtlednfddidpcdaaDoor.Wo
