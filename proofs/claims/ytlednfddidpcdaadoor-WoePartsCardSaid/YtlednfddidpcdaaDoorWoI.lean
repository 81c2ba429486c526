/- WoeParts' walk. (Partly printed by gen_wparts.py.) -/
import Derived.Test.YtlednfddidpcdaaDoorWoG
import Derived.Test.YtlednfddidpcdaaDoorWInvWords
namespace Go.Proofs.YtlednfddidpcdaaDoor.Wo
open Go.RowKit Go.Extern.Stop Go.Stop Go.Extern Go.Proofs.YtlednfddidpcdaaDoorW.PrintWords Go.Proofs.YtlednfddidpcdaaDoorW.PrintLast Go.Proofs.YtlednfddidpcdaaDoorW.PrintMore Go.Proofs.YtlednfddidpcdaaDoor.X
set_option linter.unusedVariables false
set_option linter.unusedSimpArgs false

theorem path_s (s : Nat → Addr) (b : Addr) (ps : List Int) (v : Value) (w : World) (hs : Sents w s) (hc : Ch w b ps v) (hlim : ps.length ≤ 1000000) :
    Calls Tryd.prog 13 #[v] w fun e w' => ∃ u : Value, e = .returned u ∧ Sl (Kd.int .i64) w' u ps ∧ Below w.heap.size w w' := by
  refine (path_ch s b ps v w hs hc hlim).mono ?_
  rintro e w1 ⟨u, rfl, hR, hb⟩
  exact ⟨u, rfl, Sl_R hR, hb⟩
def wparts.T16 : Bool × List (List Nat × List Nat) := (true, [([], []), ([], []), ([1], [1]), ([0, 2], [0, 2]), ([], []), ([4], [4]), ([3, 5, 5], [3, 5]), ([6, 6], [6]), ([7], [7]), ([7], [7]), ([9, 7], [7, 9]), ([8, 10, 7], [7, 8, 10]), ([7], [7]), ([12, 7, 7], [7, 12]), ([11, 13, 13, 7], [7, 11, 13]), ([7, 14], [7, 14]), ([15, 14, 0, 1, 2, 3, 4, 5, 6, 7, 8, 9, 10, 11, 12, 13, 14, 15], [15])])
def wparts.B16 : List Nat := [0, 0, 2, 7, 0, 16, 63, 127, 255, 255, 767, 2047, 255, 4351, 16383, 32767, 65535]
theorem wparts.tab16 : rtab .any (opsOf Tryd.f5 16) = wparts.T16 := by kernel_rfl
theorem wparts.bits16 : waitsOk wparts.T16.2 wparts.B16 = true := by kernel_rfl
set_option maxHeartbeats 2000000 in
set_option maxRecDepth 100000 in
theorem parts_walk (s : Nat → Addr) (a0 : Int) (A1 : Option Addr) (c1 : Nat) (l1 : List Int) (A2 : Option Addr) (c2 : Nat) (l2 : List Int) (W : World) (hs : Sents W s) (wa0 : I64 a0) (hC1 : Kd.C (Kd.int .i64) W A1 l1.length l1) (hl1 : l1.length ≤ c1) (hC2 : Kd.C (Kd.int .i64) W A2 l2.length l2) (hl2 : l2.length ≤ c2) :
    Calls Tryd.prog 5 #[.int .i64 a0, .slice A1 l1.length c1, .slice A2 l2.length c2] W fun e w' => e = .returned (.bool true) ∧ Below W.heap.size W w' := by
  have hlen := Kd.C_max hC1
  have hlen2 := Kd.C_max hC2
  obtain ⟨i3, hi3, hs3⟩ := Option.map_eq_some_iff.1 (show (Tryd.prog.info? 3).map (·.size) = some 1 by kernel_rfl)
  have HI3 := Aside0.mk hi3
  have HA := awake_c s W hs
  have HS := Aside0.mk hs
  clear hs
  have HC1 := Aside0.mk hC1
  clear hC1
  have HC2 := Aside0.mk hC2
  clear hC2
  clear hi3
  go_enter Tryd.func5, Tryd.ntmps5
  go_wp2_with fail
  refine HA.mono ?_
  rintro e w1 ⟨rfl, hb⟩
  have HB := Aside0.mk hb
  clear hb HA
  by_cases g1 : 40 < l1.length
  · have g1' : (40 : Int) < (l1.length : Int) := by omega
    go_wp2
    go_ret
    exact ⟨rfl, HB.out⟩
  · by_cases g2 : 40 < l2.length
    · have g1' : (l1.length : Int) ≤ 40 := by omega
      have g2' : (40 : Int) < (l2.length : Int) := by omega
      go_wp2
      go_ret
      exact ⟨rfl, HB.out⟩
    · have g1' : (l1.length : Int) ≤ 40 := by omega
      have g2' : (l2.length : Int) ≤ 40 := by omega
      by_cases hr : a0 < 1 ∨ 11 < a0
      · have hh := wrapped_no a0 hr A1 c1 l1 w1 (Kd.C_below HC1.out HB.out)
        have HH := Aside0.mk hh
        clear hh
        go_wp2_with fail
        refine HH.out.mono ?_
        rintro e w2 ⟨rfl, rfl⟩
        clear HH
        go_wp2
        go_loopw [8, 9] (fun v i wr => ∃ k : Nat, k ≤ l2.length ∧ i = .int .i64 k ∧ v = .nilIface ∧ wr = w2) (fun _ i _ => l2.length - (intOf i).toNat)
        case atStart => exact ⟨0, Nat.zero_le _, rfl, rfl, rfl⟩
        case round =>
          obtain ⟨k, hkl, rfl, rfl, rfl⟩ := hrel
          by_cases hlt : k < l2.length
          · obtain ⟨ad, eA, q0⟩ := Kd.at_int HC2.out (k : Int) (by omega) (by omega)
            replace q0 := pw_cell_below HB.out q0
            simp only [Int.toNat_natCast] at q0
            cases eA
            go_wp2_with fail
            refine (at_nil (rd l2 (k : Int)) wr).mono ?_
            rintro e w3 ⟨rfl, rfl⟩
            go_wp2
            go_roundw
            case rel => exact ⟨k + 1, by omega, by go_num, rfl, trivial⟩
            case measure => simp [intOf]; omega
          · go_wp2
            go_ret
            exact ⟨rfl, HB.out⟩
      · obtain ⟨n, hn, hcn⟩ : ∃ n : Nat, n < 11 ∧ a0 = (n : Int) + 1 := ⟨(a0 - 1).toNat, by omega, by omega⟩
        have hh := wrapped_yes s n hn a0 hcn A1 c1 l1 w1 (HS.out.below HB.out) (Kd.C_below HC1.out HB.out)
        have HH := Aside0.mk hh
        clear hh
        have HCN := Aside0.mk hcn
        clear hcn
        clear hr
        go_wp2_with fail
        refine HH.out.mono ?_
        rintro e w2 ⟨v, rfl, hc, hb⟩
        replace HB := Aside0.mk (below_step HB.out hb)
        obtain ⟨T, x, rfl⟩ := Ch_shape hc
        have HC := Aside0.mk hc
        clear hc hb HH
        go_wp2
        go_loopw [8, 9] (fun v i wr => ∃ k : Nat, k ≤ l2.length ∧ i = .int .i64 k ∧ Ch wr (s (n + 1)) ((l2.take k).reverse ++ l1.reverse) v ∧ Below w2.heap.size w2 wr) (fun _ i _ => l2.length - (intOf i).toNat)
        case atStart => exact ⟨0, Nat.zero_le _, rfl, by rw [List.take_zero, List.reverse_nil, List.nil_append]; exact HC.out, Below.refl _ _⟩
        case round =>
          obtain ⟨k, hkl, rfl, hc, hb⟩ := hrel
          have HC3 := Aside0.mk hc
          have HBL := Aside0.mk (below_step HB.out hb)
          have HB2 := Aside0.mk hb
          clear hc hb
          by_cases hlt : k < l2.length
          · obtain ⟨ad, eA, q0⟩ := Kd.at_int HC2.out (k : Int) (by omega) (by omega)
            replace q0 := pw_cell_below HBL.out q0
            simp only [Int.toNat_natCast] at q0
            cases eA
            have hrv := rev_snoc l2 k hlt
            have hh := at_ch (rd l2 (k : Int)) HC3.out
            have HRV := Aside0.mk hrv
            clear hrv
            have HH := Aside0.mk hh
            clear hh
            go_wp2_with fail
            refine HH.out.mono ?_
            rintro e w3 ⟨v3, rfl, hc3, hb3⟩
            have HC4 := Aside0.mk hc3
            have HB4 := Aside0.mk (below_step HB2.out hb3)
            clear hc3 hb3 HH
            go_wp2
            go_roundw
            case rel => exact ⟨k + 1, by omega, by go_num, by rw [HRV.out, List.cons_append]; exact HC4.out, HB4.out⟩
            case measure => simp [intOf]; omega
          · obtain rfl : k = l2.length := by omega
            have hc := HC3.out
            rw [List.take_length] at hc
            have hsx := HS.out.below HBL.out
            have hce := Ch_below HC.out HB2.out
            have hlp : (l2.reverse ++ l1.reverse).length = l1.length + l2.length := by simp; omega
            have h2 := path_ch s _ _ _ wr hsx hc (by rw [hlp]; omega)
            obtain ⟨T2, x2, rfl⟩ := Ch_shape hc
            have HC5 := Aside0.mk hc
            clear hc hsx HC3 HC
            have H2 := Aside0.mk h2
            clear h2
            have HCE := Aside0.mk hce
            clear hce
            have HLP := Aside0.mk hlp
            clear hlp
            go_wp2_with fail
            refine H2.out.mono ?_
            rintro e w5 ⟨u, rfl, hR, hb⟩
            obtain ⟨A10, c10, rfl⟩ := Kd.R_slice hR
            obtain ⟨_, hcap, hC10⟩ := Kd.R_reads' hR
            rw [HLP.out] at hcap hC10 ⊢
            replace HBL := Aside0.mk (below_step HBL.out hb)
            replace HCE := Aside0.mk (Ch_below HCE.out hb)
            have hh := code_y s n hn _ _ w5 (HS.out.below HBL.out) (Ch_below HC5.out hb) a0 HCN.out
            have h3 := code_y s n hn _ _ w5 (HS.out.below HBL.out) HCE.out a0 HCN.out
            have HH := Aside0.mk hh
            clear hh
            have H3 := Aside0.mk h3
            clear h3
            have HC10 := Aside0.mk hC10
            clear hC10
            clear hR hb H2 HC5
            go_wp2_with fail
            refine HH.out.mono ?_
            rintro e w6 ⟨rfl, rfl⟩
            clear HH
            go_wp2_with fail
            refine H3.out.mono ?_
            rintro e w7 ⟨rfl, rfl⟩
            clear H3
            have hcut2 : ∀ w : World, (Instr.slice 22 (.slice A10 (l1.length + l2.length) c10) (some (.int .i64 (l2.length : Int))) none none).run Tryd.prog w = .ok (.slice (if c10 = l2.length then A10 else A10.map (·.add (l2.length * 1))) l1.length (c10 - l2.length)) w := fun w => by
              have := cut_from (P := Tryd.prog) 22 3 .i64 Tryd.underlying22 HI3.out 1 hs3 A10 (l1.length + l2.length) c10 (l2.length : Int) (by omega) (by omega) w
              rw [this, Int.toNat_natCast, show l1.length + l2.length - l2.length = l1.length by omega]
            have hcut1 : ∀ w : World, (Instr.slice 22 (.slice A10 (l1.length + l2.length) c10) none (some (.int .i64 (l2.length : Int))) none).run Tryd.prog w = .ok (.slice A10 l2.length c10) w := fun w => by
              have := cut_to (P := Tryd.prog) 22 3 .i64 Tryd.underlying22 HI3.out A10 (l1.length + l2.length) c10 (l2.length : Int) (by omega) (by omega) hcap w
              rw [this, Int.toNat_natCast]
            have hCx : Kd.C (Kd.int .i64) w7 A10 (l2.reverse ++ l1.reverse).length (l2.reverse ++ l1.reverse) := by rw [HLP.out]; exact HC10.out
            have k1 := Kd.C_take (m := l2.length) hCx (by rw [HLP.out]; omega)
            have k2 := Kd.C_drop (m := l2.length) (c := c10) hCx (by rw [HLP.out]; omega) (by rw [HLP.out]; exact hcap)
            have e1 : (l2.reverse ++ l1.reverse).take l2.length = l2.reverse := by rw [List.take_left' (by simp)]
            have e2 : (l2.reverse ++ l1.reverse).drop l2.length = l1.reverse := by rw [List.drop_left' (by simp)]
            rw [e1] at k1
            rw [e2] at k2
            obtain ⟨B0, hB0⟩ : ∃ B, B = (if c10 = l2.length then A10 else A10.map (·.add (l2.length * 1))) := ⟨_, rfl⟩
            rw [← hB0] at hcut2
            have k2' : Kd.C (Kd.int .i64) w7 B0 l1.reverse.length l1.reverse := by rw [hB0]; exact k2
            have sA : Sl (Kd.int .i64) w7 (.slice A10 l2.length c10) l2.reverse := ⟨A10, c10, by rw [List.length_reverse], by rw [List.length_reverse]; omega, k1⟩
            have sB : Sl (Kd.int .i64) w7 (.slice B0 l1.length (c10 - l2.length)) l1.reverse := ⟨B0, c10 - l2.length, by rw [List.length_reverse], by rw [List.length_reverse]; omega, k2'⟩
            have SA := Aside0.mk sA
            have SB := Aside0.mk sB
            have hr40 : l1.reverse.length ≤ 1000000 := by rw [List.length_reverse]; omega
            have HCUT1 := Aside0.mk hcut1
            clear hcut1
            have HCUT2 := Aside0.mk hcut2
            clear hcut2
            clear sA sB k1 k2 k2' hCx e1 e2 hB0 g1 g2 g1' g2' hlt hkl
            go_wp2
            refine start_ (n := 17) (S := fun w' => True) (ds := []) #[false, false, false, false, false, false, false, false, false, false, false, false, false, false, false, false, false] (by kernel_rfl) rfl rfl trivial (fun hHeld => ?_)
            refine with_tabW wparts.tab16 wparts.bits16 (fun HT_ HW_ => ?_)
            have HBr := Aside0.mk (below_drew1 (Below.refl w7.heap.size w7))
            refine inv_at [0, 1, 2, 3, 4, 5, 6, 7, 8, 9, 10, 11, 12, 13, 14, 15, 16] (fun a0_ b a w' => ∃ (v63_ : Value) (v71_ : Value), a = putSel a0_ b [(0, 58, .slice A10 (l1.length + l2.length) c10), (1, 59, .slice A2 l2.length c2), (2, 60, .int .i64 (l2.length : Int)), (3, 61, .slice B0 l1.length (c10 - l2.length)), (4, 62, .iface T x), (5, 63, v63_), (6, 64, .bool true), (7, 65, .bool true), (8, 66, .slice A10 (l1.length + l2.length) c10), (9, 67, .slice A2 l2.length c2), (10, 68, .int .i64 (l2.length : Int)), (11, 69, .slice A10 l2.length c10), (12, 70, .slice A2 l2.length c2), (13, 71, v71_), (14, 72, .bool true), (15, 73, .bool true), (16, 6, .bool true)] ∧ (Below w7.heap.size w7 w') ∧ (b 5 = true → Sl (Kd.int .i64) w' v63_ (l1.reverse)) ∧ (b 13 = true → Sl (Kd.int .i64) w' v71_ (l2.reverse))) HT_.out HW_.out (by kernel_rfl) (by kernel_rfl) ?_ ?_ ?_
            · exact ⟨.bool false, .bool false, by simp only [putSel, Bool.false_eq_true, if_false], HBr.out, fun h_ => absurd h_ (by decide), fun h_ => absurd h_ (by decide)⟩
            · skip
              clear HBr
              refine steps_cons ?_ ?_
              · rintro b a w' ⟨v63_, v71_, ha, Q_HBr, Q_S63, Q_S71⟩ hb_ hon hoff
                refine ⟨_, rfl, fun K hK => ?_⟩
                have e10 : a.tmps[10]? = some (.slice A10 (l1.length + l2.length) c10) := by rw [ha]; exact (putSel_off rfl).trans rfl
                replace ha := Aside0.mk ha
                have HBr := Aside0.mk Q_HBr
                refine value_ (w1 := w') (v := .slice A10 (l1.length + l2.length) c10) ?cA ?cB ?_ ?_
                case cA => rfl
                case cB => rfl
                · go_simp
                  (try simp only [i64_w])
                  try rfl
                refine hK.out _ _ ⟨v63_, v71_, (by rw [ha.out]; exact putSel_upk 0 hb_ rfl rfl rfl), Q_HBr, Q_S63, fun h0_ => absurd ((hoff 13 (by kernel_rfl)).symm.trans h0_) (by decide)⟩
              refine steps_cons ?_ ?_
              · rintro b a w' ⟨v63_, v71_, ha, Q_HBr, Q_S63, Q_S71⟩ hb_ hon hoff
                refine ⟨_, rfl, fun K hK => ?_⟩
                have e2 : a.tmps[2]? = some (.slice A2 l2.length c2) := by rw [ha]; exact (putSel_off rfl).trans rfl
                replace ha := Aside0.mk ha
                have HBr := Aside0.mk Q_HBr
                refine value_ (w1 := w') (v := .slice A2 l2.length c2) ?cA ?cB ?_ ?_
                case cA => rfl
                case cB => rfl
                · go_simp
                  (try simp only [i64_w])
                  try rfl
                refine hK.out _ _ ⟨v63_, v71_, (by rw [ha.out]; exact putSel_upk 1 hb_ rfl rfl rfl), Q_HBr, Q_S63, fun h0_ => absurd ((hoff 13 (by kernel_rfl)).symm.trans h0_) (by decide)⟩
              refine steps_cons ?_ ?_
              · rintro b a w' ⟨v63_, v71_, ha, Q_HBr, Q_S63, Q_S71⟩ hb_ hon hoff
                refine ⟨_, rfl, fun K hK => ?_⟩
                have e59 : a.tmps[59]? = some (.slice A2 l2.length c2) := by rw [ha]; exact putSel_on (e := (1, 59, .slice A2 l2.length c2)) 1 rfl rfl (hon 1 (by kernel_rfl)) rfl
                replace ha := Aside0.mk ha
                have HBr := Aside0.mk Q_HBr
                refine value_ (w1 := w') (v := .int .i64 (l2.length : Int)) ?cA ?cB ?_ ?_
                case cA => rfl
                case cB => rfl
                · go_simp
                  (try simp only [i64_w])
                  try rfl
                refine hK.out _ _ ⟨v63_, v71_, (by rw [ha.out]; exact putSel_upk 2 hb_ rfl rfl rfl), Q_HBr, Q_S63, fun h0_ => absurd ((hoff 13 (by kernel_rfl)).symm.trans h0_) (by decide)⟩
              refine steps_cons ?_ ?_
              · rintro b a w' ⟨v63_, v71_, ha, Q_HBr, Q_S63, Q_S71⟩ hb_ hon hoff
                refine ⟨_, rfl, fun K hK => ?_⟩
                have e58 : a.tmps[58]? = some (.slice A10 (l1.length + l2.length) c10) := by rw [ha]; exact putSel_on (e := (0, 58, .slice A10 (l1.length + l2.length) c10)) 0 rfl rfl (hon 0 (by kernel_rfl)) rfl
                have e60 : a.tmps[60]? = some (.int .i64 (l2.length : Int)) := by rw [ha]; exact putSel_on (e := (2, 60, .int .i64 (l2.length : Int))) 2 rfl rfl (hon 2 (by kernel_rfl)) rfl
                replace ha := Aside0.mk ha
                have HBr := Aside0.mk Q_HBr
                have z_ := HCUT2.out
                refine value_ (w1 := w') (v := .slice B0 l1.length (c10 - l2.length)) ?cA ?cB ?_ ?_
                case cA => rfl
                case cB => rfl
                · go_simp
                  (try simp only [i64_w])
                  try rfl
                refine hK.out _ _ ⟨v63_, v71_, (by rw [ha.out]; exact putSel_upk 3 hb_ rfl rfl rfl), Q_HBr, Q_S63, fun h0_ => absurd ((hoff 13 (by kernel_rfl)).symm.trans h0_) (by decide)⟩
              refine steps_cons ?_ ?_
              · rintro b a w' ⟨v63_, v71_, ha, Q_HBr, Q_S63, Q_S71⟩ hb_ hon hoff
                refine ⟨_, rfl, fun K hK => ?_⟩
                have e7 : a.tmps[7]? = some (.iface T x) := by rw [ha]; exact (putSel_off rfl).trans rfl
                replace ha := Aside0.mk ha
                have HBr := Aside0.mk Q_HBr
                refine value_ (w1 := w') (v := .iface T x) ?cA ?cB ?_ ?_
                case cA => rfl
                case cB => rfl
                · go_simp
                  (try simp only [i64_w])
                  try rfl
                refine hK.out _ _ ⟨v63_, v71_, (by rw [ha.out]; exact putSel_upk 4 hb_ rfl rfl rfl), Q_HBr, fun h0_ => absurd ((hoff 5 (by kernel_rfl)).symm.trans h0_) (by decide), fun h0_ => absurd ((hoff 13 (by kernel_rfl)).symm.trans h0_) (by decide)⟩
              refine steps_cons ?_ ?_
              · rintro b a w' ⟨v63_, v71_, ha, Q_HBr, Q_S63, Q_S71⟩ hb_ hon hoff
                refine ⟨_, rfl, fun K hK => ?_⟩
                have e62 : a.tmps[62]? = some (.iface T x) := by rw [ha]; exact putSel_on (e := (4, 62, .iface T x)) 4 rfl rfl (hon 4 (by kernel_rfl)) rfl
                replace ha := Aside0.mk ha
                have HBr := Aside0.mk Q_HBr
                refine goes_ Tryd.func13 (by kernel_rfl) rfl #[.iface T x] (by rfl) rfl rfl (by first | (simp only [List.map_toArray, List.map_cons, List.map_nil, Act.eval, Array.getD_eq_getD_getElem?, Option.getD_some, e62]; done) | (simp only [List.map_toArray, List.map_cons, List.map_nil, Act.eval, Array.getD_eq_getD_getElem?, Option.getD_some, e62]; rfl)) ?_
                refine (path_s s _ _ _ _ (HS.out.below (below_step HBL.out HBr.out)) (Ch_below HCE.out HBr.out) hr40).mono ?_
                rintro e w1 ⟨z1, rfl, hs1, hb1⟩
                refine ⟨_, rfl, ?_⟩
                refine hK.out _ _ ⟨z1, v71_, (by rw [ha.out]; exact putSel_upk 5 hb_ rfl rfl rfl), below_step HBr.out hb1, fun _ => hs1, fun h0_ => absurd ((hoff 13 (by kernel_rfl)).symm.trans h0_) (by decide)⟩
              refine steps_cons ?_ ?_
              · rintro b a w' ⟨v63_, v71_, ha, Q_HBr, Q_S63, Q_S71⟩ hb_ hon hoff
                refine ⟨_, rfl, fun K hK => ?_⟩
                have e61 : a.tmps[61]? = some (.slice B0 l1.length (c10 - l2.length)) := by rw [ha]; exact putSel_on (e := (3, 61, .slice B0 l1.length (c10 - l2.length))) 3 rfl rfl (hon 3 (by kernel_rfl)) rfl
                have e63 : a.tmps[63]? = some (v63_) := by rw [ha]; exact putSel_on (e := (5, 63, v63_)) 5 rfl rfl (hon 5 (by kernel_rfl)) rfl
                replace ha := Aside0.mk ha
                have HBr := Aside0.mk Q_HBr
                have S63 := Aside0.mk (Q_S63 (hon 5 (by kernel_rfl)))
                refine goes_ Tryd.func14 (by kernel_rfl) rfl #[.slice B0 l1.length (c10 - l2.length), v63_] (by rfl) rfl rfl (by first | (simp only [List.map_toArray, List.map_cons, List.map_nil, Act.eval, Array.getD_eq_getD_getElem?, Option.getD_some, e61, e63]; done) | (simp only [List.map_toArray, List.map_cons, List.map_nil, Act.eval, Array.getD_eq_getD_getElem?, Option.getD_some, e61, e63]; rfl)) ?_
                refine (ints_y (Sl_below SB.out HBr.out) S63.out rfl).mono ?_
                rintro e w1 ⟨rfl, hb1⟩
                refine ⟨_, rfl, ?_⟩
                refine hK.out _ _ ⟨v63_, v71_, (by rw [ha.out]; exact putSel_upk 6 hb_ rfl rfl rfl), below_step HBr.out hb1, fun _ => Sl_below S63.out hb1, fun h0_ => absurd ((hoff 13 (by kernel_rfl)).symm.trans h0_) (by decide)⟩
              refine steps_cons ?_ ?_
              · rintro b a w' ⟨v63_, v71_, ha, Q_HBr, Q_S63, Q_S71⟩ hb_ hon hoff
                refine ⟨_, rfl, fun K hK => ?_⟩
                have e64 : a.tmps[64]? = some (.bool true) := by rw [ha]; exact putSel_on (e := (6, 64, .bool true)) 6 rfl rfl (hon 6 (by kernel_rfl)) rfl
                replace ha := Aside0.mk ha
                have HBr := Aside0.mk Q_HBr
                have S63 := Aside0.mk (Q_S63 (hon 5 (by kernel_rfl)))
                refine value_ (w1 := w') (v := .bool true) ?cA ?cB ?_ ?_
                case cA => rfl
                case cB => rfl
                · go_simp
                  (try simp only [i64_w])
                  try rfl
                refine hK.out _ _ ⟨v63_, v71_, (by rw [ha.out]; exact putSel_upk 7 hb_ rfl rfl rfl), Q_HBr, Q_S63, fun h0_ => absurd ((hoff 13 (by kernel_rfl)).symm.trans h0_) (by decide)⟩
              refine steps_cons ?_ ?_
              · rintro b a w' ⟨v63_, v71_, ha, Q_HBr, Q_S63, Q_S71⟩ hb_ hon hoff
                refine ⟨_, rfl, fun K hK => ?_⟩
                have e10 : a.tmps[10]? = some (.slice A10 (l1.length + l2.length) c10) := by rw [ha]; exact (putSel_off rfl).trans rfl
                have e65 : a.tmps[65]? = some (.bool true) := by rw [ha]; exact putSel_on (e := (7, 65, .bool true)) 7 rfl rfl (hon 7 (by kernel_rfl)) rfl
                replace ha := Aside0.mk ha
                have HBr := Aside0.mk Q_HBr
                have S63 := Aside0.mk (Q_S63 (hon 5 (by kernel_rfl)))
                refine value_ (w1 := w') (v := .slice A10 (l1.length + l2.length) c10) (wanted_on rfl rfl rfl (e65.trans (by first | rfl | (simp [*]; done)))) rfl ?_ ?_
                · go_simp
                  (try simp only [i64_w])
                  try rfl
                refine hK.out _ _ ⟨v63_, v71_, (by rw [ha.out]; exact putSel_upk 8 hb_ rfl rfl rfl), Q_HBr, Q_S63, Q_S71⟩
              refine steps_cons ?_ ?_
              · rintro b a w' ⟨v63_, v71_, ha, Q_HBr, Q_S63, Q_S71⟩ hb_ hon hoff
                refine ⟨_, rfl, fun K hK => ?_⟩
                have e2 : a.tmps[2]? = some (.slice A2 l2.length c2) := by rw [ha]; exact (putSel_off rfl).trans rfl
                have e65 : a.tmps[65]? = some (.bool true) := by rw [ha]; exact putSel_on (e := (7, 65, .bool true)) 7 rfl rfl (hon 7 (by kernel_rfl)) rfl
                replace ha := Aside0.mk ha
                have HBr := Aside0.mk Q_HBr
                have S63 := Aside0.mk (Q_S63 (hon 5 (by kernel_rfl)))
                refine value_ (w1 := w') (v := .slice A2 l2.length c2) (wanted_on rfl rfl rfl (e65.trans (by first | rfl | (simp [*]; done)))) rfl ?_ ?_
                · go_simp
                  (try simp only [i64_w])
                  try rfl
                refine hK.out _ _ ⟨v63_, v71_, (by rw [ha.out]; exact putSel_upk 9 hb_ rfl rfl rfl), Q_HBr, Q_S63, Q_S71⟩
              refine steps_cons ?_ ?_
              · rintro b a w' ⟨v63_, v71_, ha, Q_HBr, Q_S63, Q_S71⟩ hb_ hon hoff
                refine ⟨_, rfl, fun K hK => ?_⟩
                have e67 : a.tmps[67]? = some (.slice A2 l2.length c2) := by rw [ha]; exact putSel_on (e := (9, 67, .slice A2 l2.length c2)) 9 rfl rfl (hon 9 (by kernel_rfl)) rfl
                have e65 : a.tmps[65]? = some (.bool true) := by rw [ha]; exact putSel_on (e := (7, 65, .bool true)) 7 rfl rfl (hon 7 (by kernel_rfl)) rfl
                replace ha := Aside0.mk ha
                have HBr := Aside0.mk Q_HBr
                have S63 := Aside0.mk (Q_S63 (hon 5 (by kernel_rfl)))
                refine value_ (w1 := w') (v := .int .i64 (l2.length : Int)) (wanted_on rfl rfl rfl (e65.trans (by first | rfl | (simp [*]; done)))) rfl ?_ ?_
                · go_simp
                  (try simp only [i64_w])
                  try rfl
                refine hK.out _ _ ⟨v63_, v71_, (by rw [ha.out]; exact putSel_upk 10 hb_ rfl rfl rfl), Q_HBr, Q_S63, Q_S71⟩
              refine steps_cons ?_ ?_
              · rintro b a w' ⟨v63_, v71_, ha, Q_HBr, Q_S63, Q_S71⟩ hb_ hon hoff
                refine ⟨_, rfl, fun K hK => ?_⟩
                have e66 : a.tmps[66]? = some (.slice A10 (l1.length + l2.length) c10) := by rw [ha]; exact putSel_on (e := (8, 66, .slice A10 (l1.length + l2.length) c10)) 8 rfl rfl (hon 8 (by kernel_rfl)) rfl
                have e68 : a.tmps[68]? = some (.int .i64 (l2.length : Int)) := by rw [ha]; exact putSel_on (e := (10, 68, .int .i64 (l2.length : Int))) 10 rfl rfl (hon 10 (by kernel_rfl)) rfl
                have e65 : a.tmps[65]? = some (.bool true) := by rw [ha]; exact putSel_on (e := (7, 65, .bool true)) 7 rfl rfl (hon 7 (by kernel_rfl)) rfl
                replace ha := Aside0.mk ha
                have HBr := Aside0.mk Q_HBr
                have S63 := Aside0.mk (Q_S63 (hon 5 (by kernel_rfl)))
                have z_ := HCUT1.out
                refine value_ (w1 := w') (v := .slice A10 l2.length c10) (wanted_on rfl rfl rfl (e65.trans (by first | rfl | (simp [*]; done)))) rfl ?_ ?_
                · go_simp
                  (try simp only [i64_w])
                  try rfl
                refine hK.out _ _ ⟨v63_, v71_, (by rw [ha.out]; exact putSel_upk 11 hb_ rfl rfl rfl), Q_HBr, Q_S63, Q_S71⟩
              refine steps_cons ?_ ?_
              · rintro b a w' ⟨v63_, v71_, ha, Q_HBr, Q_S63, Q_S71⟩ hb_ hon hoff
                refine ⟨_, rfl, fun K hK => ?_⟩
                have e2 : a.tmps[2]? = some (.slice A2 l2.length c2) := by rw [ha]; exact (putSel_off rfl).trans rfl
                have e65 : a.tmps[65]? = some (.bool true) := by rw [ha]; exact putSel_on (e := (7, 65, .bool true)) 7 rfl rfl (hon 7 (by kernel_rfl)) rfl
                replace ha := Aside0.mk ha
                have HBr := Aside0.mk Q_HBr
                have S63 := Aside0.mk (Q_S63 (hon 5 (by kernel_rfl)))
                refine value_ (w1 := w') (v := .slice A2 l2.length c2) (wanted_on rfl rfl rfl (e65.trans (by first | rfl | (simp [*]; done)))) rfl ?_ ?_
                · go_simp
                  (try simp only [i64_w])
                  try rfl
                refine hK.out _ _ ⟨v63_, v71_, (by rw [ha.out]; exact putSel_upk 12 hb_ rfl rfl rfl), Q_HBr, Q_S63, fun h0_ => absurd ((hoff 13 (by kernel_rfl)).symm.trans h0_) (by decide)⟩
              refine steps_cons ?_ ?_
              · rintro b a w' ⟨v63_, v71_, ha, Q_HBr, Q_S63, Q_S71⟩ hb_ hon hoff
                refine ⟨_, rfl, fun K hK => ?_⟩
                have e70 : a.tmps[70]? = some (.slice A2 l2.length c2) := by rw [ha]; exact putSel_on (e := (12, 70, .slice A2 l2.length c2)) 12 rfl rfl (hon 12 (by kernel_rfl)) rfl
                have e65 : a.tmps[65]? = some (.bool true) := by rw [ha]; exact putSel_on (e := (7, 65, .bool true)) 7 rfl rfl (hon 7 (by kernel_rfl)) rfl
                replace ha := Aside0.mk ha
                have HBr := Aside0.mk Q_HBr
                have S63 := Aside0.mk (Q_S63 (hon 5 (by kernel_rfl)))
                refine goes_ Tryd.func15 (by kernel_rfl) rfl #[.slice A2 l2.length c2] (wanted_on rfl rfl rfl (e65.trans (by first | rfl | (simp [*]; done)))) rfl rfl (by first | (simp only [List.map_toArray, List.map_cons, List.map_nil, Act.eval, Array.getD_eq_getD_getElem?, Option.getD_some, e70, e65]; done) | (simp only [List.map_toArray, List.map_cons, List.map_nil, Act.eval, Array.getD_eq_getD_getElem?, Option.getD_some, e70, e65]; rfl)) ?_
                refine (back_c A2 c2 l2 _ (Kd.C_below HC2.out (below_step HBL.out HBr.out)) (by omega)).mono ?_
                rintro e w1 ⟨z1, rfl, hs1, hb1⟩
                refine ⟨_, rfl, ?_⟩
                refine hK.out _ _ ⟨v63_, z1, (by rw [ha.out]; exact putSel_upk 13 hb_ rfl rfl rfl), below_step HBr.out hb1, fun _ => Sl_below S63.out hb1, fun _ => hs1⟩
              refine steps_cons ?_ ?_
              · rintro b a w' ⟨v63_, v71_, ha, Q_HBr, Q_S63, Q_S71⟩ hb_ hon hoff
                refine ⟨_, rfl, fun K hK => ?_⟩
                have e69 : a.tmps[69]? = some (.slice A10 l2.length c10) := by rw [ha]; exact putSel_on (e := (11, 69, .slice A10 l2.length c10)) 11 rfl rfl (hon 11 (by kernel_rfl)) rfl
                have e71 : a.tmps[71]? = some (v71_) := by rw [ha]; exact putSel_on (e := (13, 71, v71_)) 13 rfl rfl (hon 13 (by kernel_rfl)) rfl
                have e65 : a.tmps[65]? = some (.bool true) := by rw [ha]; exact putSel_on (e := (7, 65, .bool true)) 7 rfl rfl (hon 7 (by kernel_rfl)) rfl
                replace ha := Aside0.mk ha
                have HBr := Aside0.mk Q_HBr
                have S63 := Aside0.mk (Q_S63 (hon 5 (by kernel_rfl)))
                have S71 := Aside0.mk (Q_S71 (hon 13 (by kernel_rfl)))
                refine goes_ Tryd.func14 (by kernel_rfl) rfl #[.slice A10 l2.length c10, v71_] (wanted_on rfl rfl rfl (e65.trans (by first | rfl | (simp [*]; done)))) rfl rfl (by first | (simp only [List.map_toArray, List.map_cons, List.map_nil, Act.eval, Array.getD_eq_getD_getElem?, Option.getD_some, e69, e71, e65]; done) | (simp only [List.map_toArray, List.map_cons, List.map_nil, Act.eval, Array.getD_eq_getD_getElem?, Option.getD_some, e69, e71, e65]; rfl)) ?_
                refine (ints_y (Sl_below SA.out HBr.out) S71.out rfl).mono ?_
                rintro e w1 ⟨rfl, hb1⟩
                refine ⟨_, rfl, ?_⟩
                refine hK.out _ _ ⟨v63_, v71_, (by rw [ha.out]; exact putSel_upk 14 hb_ rfl rfl rfl), below_step HBr.out hb1, fun _ => Sl_below S63.out hb1, fun _ => Sl_below S71.out hb1⟩
              refine steps_cons ?_ ?_
              · rintro b a w' ⟨v63_, v71_, ha, Q_HBr, Q_S63, Q_S71⟩ hb_ hon hoff
                refine ⟨_, rfl, fun K hK => ?_⟩
                have e65 : a.tmps[65]? = some (.bool true) := by rw [ha]; exact putSel_on (e := (7, 65, .bool true)) 7 rfl rfl (hon 7 (by kernel_rfl)) rfl
                have e72 : a.tmps[72]? = some (.bool true) := by rw [ha]; exact putSel_on (e := (14, 72, .bool true)) 14 rfl rfl (hon 14 (by kernel_rfl)) rfl
                replace ha := Aside0.mk ha
                have HBr := Aside0.mk Q_HBr
                have S63 := Aside0.mk (Q_S63 (hon 5 (by kernel_rfl)))
                have S71 := Aside0.mk (Q_S71 (hon 13 (by kernel_rfl)))
                refine value_ (w1 := w') (v := .bool true) ?cA ?cB ?_ ?_
                case cA => rfl
                case cB => rfl
                · go_simp
                  (try simp only [i64_w])
                  try rfl
                refine hK.out _ _ ⟨v63_, v71_, (by rw [ha.out]; exact putSel_upk 15 hb_ rfl rfl rfl), Q_HBr, Q_S63, Q_S71⟩
              refine steps_cons ?_ ?_
              · rintro b a w' ⟨v63_, v71_, ha, Q_HBr, Q_S63, Q_S71⟩ hb_ hon hoff
                refine ⟨_, rfl, fun K hK => ?_⟩
                have e73 : a.tmps[73]? = some (.bool true) := by rw [ha]; exact putSel_on (e := (15, 73, .bool true)) 15 rfl rfl (hon 15 (by kernel_rfl)) rfl
                replace ha := Aside0.mk ha
                have HBr := Aside0.mk Q_HBr
                have S63 := Aside0.mk (Q_S63 (hon 5 (by kernel_rfl)))
                have S71 := Aside0.mk (Q_S71 (hon 13 (by kernel_rfl)))
                refine value_ (w1 := w') (v := .bool true) ?cA ?cB ?_ ?_
                case cA => rfl
                case cB => rfl
                · go_simp
                  (try simp only [i64_w])
                  try rfl
                refine hK.out _ _ ⟨v63_, v71_, (by rw [ha.out]; exact putSel_upk 16 hb_ rfl rfl rfl), Q_HBr, Q_S63, Q_S71⟩
              exact steps_nil
            rintro b a w' hall ⟨v63_, v71_, ha, Q_HBr, Q_S63, Q_S71⟩
            clear HBr
            have hb0_ := hall 0 (by kernel_rfl)
            have hb1_ := hall 1 (by kernel_rfl)
            have hb2_ := hall 2 (by kernel_rfl)
            have hb3_ := hall 3 (by kernel_rfl)
            have hb4_ := hall 4 (by kernel_rfl)
            have hb5_ := hall 5 (by kernel_rfl)
            have hb6_ := hall 6 (by kernel_rfl)
            have hb7_ := hall 7 (by kernel_rfl)
            have hb8_ := hall 8 (by kernel_rfl)
            have hb9_ := hall 9 (by kernel_rfl)
            have hb10_ := hall 10 (by kernel_rfl)
            have hb11_ := hall 11 (by kernel_rfl)
            have hb12_ := hall 12 (by kernel_rfl)
            have hb13_ := hall 13 (by kernel_rfl)
            have hb14_ := hall 14 (by kernel_rfl)
            have hb15_ := hall 15 (by kernel_rfl)
            have hb16_ := hall 16 (by kernel_rfl)
            subst ha
            simp only [putSel, hb0_, hb1_, hb2_, hb3_, hb4_, hb5_, hb6_, hb7_, hb8_, hb9_, hb10_, hb11_, hb12_, hb13_, hb14_, hb15_, hb16_, if_true, Act.put, List.setIfInBounds_toArray, List.set_cons_zero, List.set_cons_succ]
            have HBr := Aside0.mk Q_HBr
            clear Q_HBr
            have S63 := Aside0.mk (Q_S63 hb5_)
            clear Q_S63
            have S71 := Aside0.mk (Q_S71 hb13_)
            clear Q_S71
            clear hall hb0_ hb1_ hb2_ hb3_ hb4_ hb5_ hb6_ hb7_ hb8_ hb9_ hb10_ hb11_ hb12_ hb13_ hb14_ hb15_ hb16_
            go_wp2
            go_ret
            exact ⟨rfl, below_step HBL.out HBr.out⟩
end Go.Proofs.YtlednfddidpcdaaDoor.Wo
