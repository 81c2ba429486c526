/- WoeTells' walk, WoeStrange's walk. -/
import Derived.Test.YtlednfddidpcdaaDoorWoE
namespace Go.Proofs.YtlednfddidpcdaaDoor.Wo
open Go.RowKit Go.Extern.Stop Go.Stop Go.Extern Go.Proofs.YtlednfddidpcdaaDoorW.PrintWords Go.Proofs.YtlednfddidpcdaaDoorW.PrintLast Go.Proofs.YtlednfddidpcdaaDoorW.PrintMore Go.Proofs.YtlednfddidpcdaaDoor.X
set_option linter.unusedVariables false
set_option linter.unusedSimpArgs false

theorem code_y (s : Nat → Addr) (n : Nat) (hn : n < 11) (ps : List Int) (v : Value) (w : World) (hs : Sents w s) (hc : Ch w (s (n + 1)) ps v) (c : Int) (hcn : c = (n : Int) + 1) :
    Calls Tryd.prog 12 #[v] w fun e w' => e = .returned (.int .i64 c) ∧ w' = w := by
  have := code_ch s (s (n + 1)) ps v w hs (hs.blk n hn) hc n (by omega) (fun k hk e => by have := hs.inj n k hn (by omega) e; omega) (fun _ => rfl)
  rw [if_pos hn, ← hcn] at this
  exact this
theorem plc_last (l : List Int) (h : 0 < l.length) : plc l.reverse = rd l ((l.length : Int) - 1) ∧ (!l.reverse.isEmpty) = true := by
  obtain ⟨l', x, rfl⟩ : ∃ l' x, l = l' ++ [x] := ⟨l.dropLast, l.getLast (by intro e; subst e; simp at h), (List.dropLast_concat_getLast _).symm⟩
  constructor
  · rw [List.reverse_append]
    simp only [List.reverse_cons, List.reverse_nil, List.nil_append, List.cons_append, plc, List.length_append, List.length_cons, List.length_nil]
    have : ((l'.length + (0 + 1) : Nat) : Int) - 1 = (l'.length : Int) := by omega
    rw [this]
    simp [rd]
  · simp
set_option maxHeartbeats 1000000 in
set_option maxRecDepth 100000 in
theorem tells_walk (s : Nat → Addr) (a0 : Int) (A1 : Option Addr) (c1 : Nat) (l1 : List Int) (W : World) (hs : Sents W s) (wa0 : I64 a0) (hC1 : Kd.C (Kd.int .i64) W A1 l1.length l1) (hl1 : l1.length ≤ c1) :
    Calls Tryd.prog 3 #[.int .i64 a0, .slice A1 l1.length c1] W fun e w' => e = .returned (.bool true) ∧ Below W.heap.size W w' := by
  have hlen := Kd.C_max hC1
  have HA := awake_c s W hs
  have HS := Aside0.mk hs
  clear hs
  have HC1 := Aside0.mk hC1
  clear hC1
  go_enter Tryd.func3, Tryd.ntmps3
  go_wp2_with fail
  refine HA.mono ?_
  rintro e w1 ⟨rfl, hb⟩
  have HB := Aside0.mk hb
  clear hb HA
  by_cases g0 : 40 < l1.length
  · have g0' : (40 : Int) < (l1.length : Int) := by omega
    go_wp2
    go_ret
    exact ⟨rfl, HB.out⟩
  · have g0' : (l1.length : Int) ≤ 40 := by omega
    have g0'' : decide ((40 : Int) < (l1.length : Int)) = false := by simp; omega
    by_cases hr : a0 < 1 ∨ 11 < a0
    · have hh := wrapped_no a0 hr A1 c1 l1 w1 (Kd.C_below HC1.out HB.out)
      have HH := Aside0.mk hh
      clear hh
      go_wp2_with fail
      refine HH.out.mono ?_
      rintro e w2 ⟨rfl, rfl⟩
      clear HH
      rcases hr with hr | hr
      all_goals
        have hq1 : decide (a0 < 1) = decide (a0 < 1) := rfl
        go_wp2_with fail
        refine (place_nil w2).mono ?_
        rintro e w3 ⟨rfl, hb3⟩
        have HB3 := Aside0.mk (below_step HB.out hb3)
        clear hb3
        go_wp2_with fail
        refine (code_nil w3).mono ?_
        rintro e w4 ⟨rfl, rfl⟩
        go_wp2_with fail
        refine (path_nil w4).mono ?_
        rintro e w5 ⟨rfl, hb5⟩
        go_wp2
        go_ret
        exact ⟨rfl, below_step HB3.out hb5⟩
    · obtain ⟨n, hn, hcn⟩ : ∃ n : Nat, n < 11 ∧ a0 = (n : Int) + 1 := ⟨(a0 - 1).toNat, by omega, by omega⟩
      have hr1 : ¬ a0 < 1 := by omega
      have hr2 : ¬ 11 < a0 := by omega
      have hh := wrapped_yes s n hn a0 hcn A1 c1 l1 w1 (HS.out.below HB.out) (Kd.C_below HC1.out HB.out)
      have HH := Aside0.mk hh
      clear hh
      have HCN := Aside0.mk hcn
      clear hcn
      clear hr
      go_wp2_with fail
      refine HH.out.mono ?_
      rintro e w2 ⟨v, rfl, hc, hb⟩
      replace HB := Aside0.mk (below_step HB.out hb)
      obtain ⟨T, x, rfl⟩ := Ch_shape hc
      have HC := Aside0.mk hc
      clear hc hb HH
      have hh := place_ch s _ _ _ _ (HS.out.below HB.out) HC.out
      have HH := Aside0.mk hh
      clear hh
      go_wp2_with fail
      refine HH.out.mono ?_
      rintro e w3 ⟨rfl, hb⟩
      replace HB := Aside0.mk (below_step HB.out hb)
      replace HC := Aside0.mk (Ch_below HC.out hb)
      clear hb HH
      have hh := code_y s n hn _ _ w3 (HS.out.below HB.out) HC.out a0 HCN.out
      have h2 := path_ch s _ _ _ w3 (HS.out.below HB.out) HC.out (by rw [List.length_reverse]; omega)
      have HH := Aside0.mk hh
      clear hh
      have H2 := Aside0.mk h2
      clear h2
      have tail : ∀ (pv : Int) (pe : Bool), (pe = false ∧ pv = 0 ∧ l1.length = 0) ∨ (pe = true ∧ 0 < l1.length ∧ pv = rd l1 ((l1.length : Int) - 1)) → True := fun _ _ _ => trivial
      clear tail
      by_cases hz : 0 < l1.length
      · obtain ⟨hp1, hp2⟩ := plc_last l1 hz
        rw [hp1, hp2]
        clear hp1 hp2
        obtain ⟨ad, eA, q0⟩ := Kd.at_int HC1.out ((l1.length : Int) - 1) (by omega) (by omega)
        cases eA
        have hz1 : (0 : Int) < (l1.length : Int) := by omega
        go_wp2_with fail
        refine HH.out.mono ?_
        rintro e w4 ⟨rfl, rfl⟩
        clear HH
        go_wp2_with fail
        refine H2.out.mono ?_
        rintro e w5 ⟨u, rfl, hR, hb⟩
        replace HB := Aside0.mk (below_step HB.out hb)
        have hs5 := Sl_R hR
        have hh := back_c _ c1 l1 w5 (Kd.C_below HC1.out HB.out) (by omega)
        have HH := Aside0.mk hh
        clear hh
        have HS5 := Aside0.mk hs5
        clear hs5
        clear hR hb H2 HC
        go_wp2_with fail
        refine HH.out.mono ?_
        rintro e w6 ⟨v6, rfl, hs6, hb⟩
        replace HB := Aside0.mk (below_step HB.out hb)
        have hh := ints_y (Sl_below HS5.out hb) hs6 rfl
        clear HH
        have HH := Aside0.mk hh
        clear hh
        clear hs6 hb HS5
        go_wp2_with fail
        refine HH.out.mono ?_
        rintro e w7 ⟨rfl, hb⟩
        replace HB := Aside0.mk (below_step HB.out hb)
        clear HH hb
        replace q0 := pw_cell_below HB.out q0
        have e9 : ((l1.length : Int) - 1).toNat = l1.length - 1 := by omega
        rw [e9] at q0
        go_wp2
        go_ret
        exact ⟨rfl, HB.out⟩
      · obtain rfl : l1 = [] := List.length_eq_zero_iff.1 (by omega)
        simp only [List.reverse_nil, plc, List.isEmpty_nil, Bool.not_true]
        go_wp2_with fail
        refine HH.out.mono ?_
        rintro e w4 ⟨rfl, rfl⟩
        clear HH
        go_wp2_with fail
        refine H2.out.mono ?_
        rintro e w5 ⟨u, rfl, hR, hb⟩
        replace HB := Aside0.mk (below_step HB.out hb)
        have hs5 := Sl_R hR
        have hh := back_c A1 c1 [] w5 (Kd.C_below HC1.out HB.out) (by simp)
        have HH := Aside0.mk hh
        clear hh
        have HS5 := Aside0.mk hs5
        clear hs5
        clear hR hb H2 HC
        go_wp2_with fail
        refine HH.out.mono ?_
        rintro e w6 ⟨v6, rfl, hs6, hb⟩
        replace HB := Aside0.mk (below_step HB.out hb)
        have hh := ints_y (Sl_below HS5.out hb) hs6 rfl
        clear HH
        have HH := Aside0.mk hh
        clear hh
        clear hs6 hb HS5
        go_wp2_with fail
        refine HH.out.mono ?_
        rintro e w7 ⟨rfl, hb⟩
        replace HB := Aside0.mk (below_step HB.out hb)
        clear HH hb
        go_wp2
        go_ret
        exact ⟨rfl, HB.out⟩
end Go.Proofs.YtlednfddidpcdaaDoor.Wo
