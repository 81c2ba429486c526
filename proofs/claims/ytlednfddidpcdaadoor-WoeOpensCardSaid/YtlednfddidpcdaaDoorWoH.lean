/- WoeOpens' walk. (Partly printed by gen_opens.py.) -/
import Derived.Test.YtlednfddidpcdaaDoorWoG
import Derived.Test.YtlednfddidpcdaaDoorWInvWords
namespace Go.Proofs.YtlednfddidpcdaaDoor.Wo
open Go.RowKit Go.Extern.Stop Go.Stop Go.Extern Go.Proofs.YtlednfddidpcdaaDoorW.PrintWords Go.Proofs.YtlednfddidpcdaaDoorW.PrintLast Go.Proofs.YtlednfddidpcdaaDoorW.PrintMore Go.Proofs.YtlednfddidpcdaaDoor.X
set_option linter.unusedVariables false
set_option linter.unusedSimpArgs false

theorem error_c (v : Value) (w : World) : Calls Tryd.prog 21 #[v] w fun e w' => e = .returned (.string ⟨#[119, 111, 101]⟩) ∧ Below w.heap.size w w' := by
  go_enter Tryd.func21, Tryd.ntmps21
  go_wp2
  go_ret
  exact ⟨rfl, Below.refl _ _⟩
theorem unwrap_c (g : Nat) (p u : Value) (w : World) (h : w.heap[g]? = some (.cells #[p, u] 45 (0, 0))) : Calls Tryd.prog 22 #[.pointer (some ⟨g, 0, none⟩)] w fun e w' => e = .returned u ∧ w' = w := by
  have c1 := (blk_cell h 1).trans rfl
  have hu := Tryd.underlying45
  go_enter Tryd.func22, Tryd.ntmps22
  go_wp2
  go_ret
  exact ⟨rfl, rfl⟩
theorem unwrap_nil (w : World) : Calls Tryd.prog 22 #[.pointer none] w fun e w' => e = .returned .nilIface ∧ w' = w := by
  go_enter Tryd.func22, Tryd.ntmps22
  go_wp2
  go_ret
  exact ⟨rfl, rfl⟩
theorem as_b (g tb : Nat) (u : Value) (w0 w : World) (hT : w.heap[tb]? = some (.cells #[u] 41 (0, 0))) (hG : w.cell? gT = some (rty 25)) (hb : Below w0.heap.size w0 w) (htb : w0.heap.size ≤ tb) :
    Calls Tryd.prog 20 #[AtPlace g, Tgt tb] w fun e w' => e = .returned (.bool true) ∧ Upd w w' tb (.pointer (some ⟨g, 0, none⟩)) ∧ Below w0.heap.size w0 w' := by
  refine (as_woe g tb u w hT hG).mono ?_
  rintro e w1 ⟨rfl, hU⟩
  exact ⟨rfl, hU, bel_grown hb hU.1 (fun k hk => by injection hk with hk; omega) hb.size⟩
def opens.T10 : Bool × List (List Nat × List Nat) := (true, [([], []), ([], []), ([0, 1], [0, 1]), ([2], [2]), ([3, 2], [3]), ([4], [4]), ([5, 4], [4, 5]), ([6, 4], [4, 6]), ([7, 4], [4, 7]), ([4], [4]), ([4], [4]), ([9, 10, 4], [4, 9, 10]), ([11, 4], [4, 11]), ([8, 12, 4], [4, 8, 12]), ([4, 13], [4, 13]), ([14, 4], [14]), ([15], [15]), ([16, 15, 15], [15, 16]), ([17, 15], [15, 17]), ([15, 18], [15, 18])])
def opens.B10 : List Nat := [0, 0, 3, 7, 15, 31, 63, 127, 255, 31, 31, 1567, 3615, 8191, 16383, 32767, 65535, 131071, 262143, 524287]
theorem opens.tab10 : rtab .any (opsOf Tryd.f7 10) = opens.T10 := by kernel_rfl
theorem opens.bits10 : waitsOk opens.T10.2 opens.B10 = true := by kernel_rfl
set_option maxHeartbeats 2000000 in
set_option maxRecDepth 100000 in
theorem opens_walk (s : Nat → Addr) (a0 : Int) (A1 : Option Addr) (c1 : Nat) (l1 : List Int) (W : World) (hs : Sents W s) (wa0 : I64 a0) (hC1 : Kd.C (Kd.int .i64) W A1 l1.length l1) (hl1 : l1.length ≤ c1) :
    Calls Tryd.prog 7 #[.int .i64 a0, .slice A1 l1.length c1] W fun e w' => e = .returned (.bool true) ∧ Below W.heap.size W w' := by
  have hu := Tryd.underlying45
  have hlen := Kd.C_max hC1
  have HA := awake_c s W hs
  have HS := Aside0.mk hs
  clear hs
  have HC1 := Aside0.mk hC1
  clear hC1
  go_enter Tryd.func7, Tryd.ntmps7
  go_wp2_with fail
  refine HA.mono ?_
  rintro e w1 ⟨rfl, hb⟩
  have HB := Aside0.mk hb
  clear hb HA
  by_cases g0 : 40 < l1.length
  · have g0' : (40 : Int) < (l1.length : Int) := by omega
    go_wp2
    go_ret
    exact ⟨rfl, HB.out⟩
  · have g0' : (l1.length : Int) ≤ 40 := by omega
    have g0'' : decide ((40 : Int) < (l1.length : Int)) = false := by simp; omega
    by_cases hr : a0 < 1 ∨ 11 < a0
    · have hh := wrapped_no a0 hr A1 c1 l1 w1 (Kd.C_below HC1.out HB.out)
      have HH := Aside0.mk hh
      clear hh
      go_wp2_with fail
      refine HH.out.mono ?_
      rintro e w2 ⟨rfl, rfl⟩
      clear HH
      go_wp2
      refine wp_loop_rounds 1 ?_
      rw [rounds_succ]
      have hh := as_nil (Tgt w2.heap.size) (w2.alloc (.cells #[.pointer none] 41))
      have hT := blk_new w2 (.cells #[.pointer none] 41)
      have hcT : (w2.alloc (.cells #[.pointer none] 41)).cell? ⟨w2.heap.size, 0, none⟩ = some (.pointer none) := (blk_cell hT 0).trans rfl
      have hbT := below_step HB.out (below_alloc (Below.refl w2.heap.size w2) (.cells #[.pointer none] 41))
      have HH := Aside0.mk hh
      clear hh
      have HBT := Aside0.mk hbT
      clear hbT
      clear hT
      by_cases hz : 0 < l1.length
      all_goals
        rcases hr with hr | hr
        all_goals
          go_wp2_with fail
          refine HH.out.mono ?_
          rintro e w4 ⟨rfl, rfl⟩
          go_wp2_with fail
          refine (unwrap_nil _).mono ?_
          rintro e w5 ⟨rfl, rfl⟩
          go_wp2_with fail
          refine (error_c _ _).mono ?_
          rintro e w6 ⟨rfl, hb6⟩
          go_wp2
          go_ret
          exact ⟨rfl, below_step HBT.out hb6⟩
    · obtain ⟨n, hn, hcn⟩ : ∃ n : Nat, n < 11 ∧ a0 = (n : Int) + 1 := ⟨(a0 - 1).toNat, by omega, by omega⟩
      have hr1 : ¬ a0 < 1 := by omega
      have hr2 : ¬ 11 < a0 := by omega
      have hh := wrapped_yes s n hn a0 hcn A1 c1 l1 w1 (HS.out.below HB.out) (Kd.C_below HC1.out HB.out)
      have HH := Aside0.mk hh
      clear hh
      clear hr hcn
      go_wp2_with fail
      refine HH.out.mono ?_
      rintro e w2 ⟨v, rfl, hc, hb⟩
      replace HB := Aside0.mk (below_step HB.out hb)
      obtain ⟨sb, hbq⟩ : ∃ sb, sb = s (n + 1) := ⟨_, rfl⟩
      rw [← hbq] at hc
      have HC := Aside0.mk hc
      clear hc hb HH hbq
      go_wp2
      go_loopw [5, 6] (fun v i wr => ∃ m : Nat, m ≤ l1.length ∧ i = .int .i64 ((m : Int) - 1) ∧ Ch wr sb (l1.take m).reverse v ∧ Below w2.heap.size w2 wr) (fun _ i _ => (intOf i + 1).toNat)
      case atStart => exact ⟨l1.length, Nat.le_refl _, rfl, by rw [List.take_length]; exact HC.out, Below.refl _ _⟩
      case round =>
        clear HC
        obtain ⟨m, hml, rfl, hc, hb⟩ := hrel
        have hBL := below_step HB.out hb
        have hT := blk_new wr (.cells #[.pointer none] 41)
        have hbT := below_alloc (Below.refl wr.heap.size wr) (.cells #[.pointer none] 41)
        by_cases hm : m = 0
        · subst hm
          obtain rfl : u5 = Sent sb := hc
          have h0 : ((0 : Nat) : Int) - 1 = -1 := rfl
          rw [h0]
          have hcT : (wr.alloc (.cells #[.pointer none] 41)).cell? ⟨wr.heap.size, 0, none⟩ = some (.pointer none) := (blk_cell hT 0).trans rfl
          have hh := as_sent sb wr.heap.size _ ((HS.out.below (below_step hBL hbT)).typ)
          have hB9 := below_step hBL hbT
          have HH := Aside0.mk hh
          clear hh
          have HBL := Aside0.mk hBL
          clear hBL
          have HB := Aside0.mk hb
          clear hb
          have HB9 := Aside0.mk hB9
          clear hB9
          clear hT hbT
          go_wp2_with fail
          refine HH.out.mono ?_
          rintro e w4 ⟨rfl, hb4⟩
          replace hcT := pw_cell_below hb4 hcT
          replace HB9 := Aside0.mk (below_step HB9.out hb4)
          clear hb4
          go_wp2_with fail
          refine (unwrap_nil _).mono ?_
          rintro e w5 ⟨rfl, rfl⟩
          go_wp2_with fail
          refine (error_c _ _).mono ?_
          rintro e w6 ⟨rfl, hb6⟩
          go_wp2
          go_ret
          exact ⟨by show Ending.returned (.bool (!decide (a0 < 1) && !decide (11 < a0))) = _; rw [decide_eq_false (by omega), decide_eq_false (by omega)]; rfl, below_step HB9.out hb6⟩
        · obtain ⟨m1, rfl⟩ : ∃ m1, m = m1 + 1 := ⟨m - 1, by omega⟩
          have h0 : ((m1 + 1 : Nat) : Int) - 1 = (m1 : Int) := by omega
          rw [h0]
          rw [rev_snoc l1 m1 (by omega)] at hc
          obtain ⟨g, u, rfl, hg, hc2⟩ := hc
          obtain ⟨T, x, rfl⟩ := Ch_shape hc2
          obtain ⟨ad, eA, q0⟩ := Kd.at_int HC1.out (m1 : Int) (by omega) (by omega)
          cases eA
          simp only [Int.toNat_natCast] at q0
          have hbz := bel hb hb.size hbT
          have hgz := blk_below hbT hg
          have hcz := Ch_below hc2 hbT
          obtain ⟨wz, hwz⟩ : ∃ wz, wz = wr.alloc (.cells #[.pointer none] 41) := ⟨_, rfl⟩
          obtain ⟨tb, htb⟩ : ∃ tb, tb = wr.heap.size := ⟨_, rfl⟩
          have htl : w2.heap.size ≤ tb := by rw [htb]; exact hb.size
          rw [← hwz] at hT hbz hgz hcz
          rw [← htb] at hT
          have HWZ := Aside0.mk hwz
          have hgt : g ≠ tb := fun e => by subst e; rw [hgz] at hT; simp at hT
          have hgt' : some g ≠ some tb := fun e => hgt (by injection e)
          have HT := Aside0.mk hT
          clear hT
          have HBZ := Aside0.mk hbz
          clear hbz
          have HGZ := Aside0.mk hgz
          clear hgz
          have HCZ := Aside0.mk hcz
          clear hcz
          have HGT' := Aside0.mk hgt'
          clear hgt'
          clear hgt
          clear hBL hbT hg hc2 hwz hb
          have hlt1 : (m1 : Int) < (l1.length : Int) := by omega
          have hlt0 : (0 : Int) ≤ (m1 : Int) := by omega
          go_wp2
          rw [show wr.alloc (.cells #[.pointer none] 41) = wz from HWZ.out.symm, ← htb]
          clear htb HWZ
          refine start_ (n := 20) (S := fun w' => True) (ds := []) #[false, false, false, false, false, false, false, false, false, false, false, false, false, false, false, false, false, false, false, false] (by kernel_rfl) rfl rfl trivial (fun hHeld => ?_)
          refine with_tabW opens.tab10 opens.bits10 (fun HT_ HW_ => ?_)
          have HBr := Aside0.mk (below_drew HBZ.out)
          have VT0 := HT
          have G1 := HGZ
          have CH := Aside0.mk (Ch_keep (w := wz) (w1 := wz.drew) (fun _ _ _ => rfl) _ _ HCZ.out)
          refine inv_at [0, 1, 2, 3, 4, 5, 6, 7, 8, 9, 10, 11, 12, 13, 14, 15, 16, 17, 18, 19] (fun a0_ b a w' => a = putSel a0_ b [(0, 28, .iface 41 (.pointer (some ⟨g, 0, none⟩))), (1, 29, .iface 43 (.pointer (some ⟨tb, 0, none⟩))), (2, 30, .bool true), (3, 31, .bool false), (4, 32, .bool false), (5, 33, .pointer (some ⟨g, 0, none⟩)), (6, 34, .pointer (some ⟨g, 0, none⟩)), (7, 35, .pointer (some ⟨g, 0, none⟩)), (8, 36, .int .i64 (rd l1 (m1 : Int))), (9, 37, .slice (some ad) l1.length c1), (10, 38, .int .i64 (m1 : Int)), (11, 39, .pointer (some (ad.add m1))), (12, 40, .int .i64 (rd l1 (m1 : Int))), (13, 41, .bool false), (14, 42, .bool false), (15, 43, .bool false), (16, 44, .pointer (some ⟨g, 0, none⟩)), (17, 45, .string ⟨#[119, 111, 101]⟩), (18, 46, .bool false), (19, 47, .bool false)] ∧ (Below w2.heap.size w2 w') ∧ (b 2 = false → w'.heap[tb]? = some (.cells #[.pointer none] 41 (0, 0))) ∧ (b 2 = true → w'.heap[tb]? = some (.cells #[.pointer (some ⟨g, 0, none⟩)] 41 (0, 0))) ∧ (w'.heap[g]? = some (.cells #[.int .i64 (rd l1 (m1 : Int)), .iface T x] 45 (0, 0))) ∧ (Ch w' sb (l1.take m1).reverse (.iface T x))) HT_.out HW_.out (by kernel_rfl) (by kernel_rfl) ?_ ?_ ?_
          · exact ⟨by simp only [putSel, Bool.false_eq_true, if_false], HBr.out, fun _ => VT0.out, fun h_ => absurd h_ (by decide), G1.out, CH.out⟩
          · skip
            clear CH G1 HBr VT0
            refine steps_cons ?_ ?_
            · rintro b a w' ⟨ha, Q_HBr, Q_VT0, Q_VT1, Q_G1, Q_CH⟩ hb_ hon hoff
              refine ⟨_, rfl, fun K hK => ?_⟩
              have e5 : a.tmps[5]? = some (.iface 41 (.pointer (some ⟨g, 0, none⟩))) := by rw [ha]; exact (putSel_off rfl).trans rfl
              replace ha := Aside0.mk ha
              have HBr := Aside0.mk Q_HBr
              have VT0 := Aside0.mk (Q_VT0 (hoff 2 (by kernel_rfl)))
              have G1 := Aside0.mk Q_G1
              have CH := Aside0.mk Q_CH
              refine value_ (w1 := w') (v := .iface 41 (.pointer (some ⟨g, 0, none⟩))) ?cA ?cB ?_ ?_
              case cA => rfl
              case cB => rfl
              · go_simp
                (try simp only [i64_w])
                try rfl
              refine hK.out _ _ ⟨(by rw [ha.out]; exact putSel_upk 0 hb_ rfl rfl rfl), Q_HBr, Q_VT0, fun h0_ => absurd ((hoff 2 (by kernel_rfl)).symm.trans h0_) (by decide), Q_G1, Q_CH⟩
            refine steps_cons ?_ ?_
            · rintro b a w' ⟨ha, Q_HBr, Q_VT0, Q_VT1, Q_G1, Q_CH⟩ hb_ hon hoff
              refine ⟨_, rfl, fun K hK => ?_⟩
              have e7 : a.tmps[7]? = some (.pointer (some ⟨tb, 0, none⟩)) := by rw [ha]; exact (putSel_off rfl).trans rfl
              replace ha := Aside0.mk ha
              have HBr := Aside0.mk Q_HBr
              have VT0 := Aside0.mk (Q_VT0 (hoff 2 (by kernel_rfl)))
              have G1 := Aside0.mk Q_G1
              have CH := Aside0.mk Q_CH
              refine value_ (w1 := w') (v := .iface 43 (.pointer (some ⟨tb, 0, none⟩))) ?cA ?cB ?_ ?_
              case cA => rfl
              case cB => rfl
              · go_simp
                (try simp only [i64_w])
                try rfl
              refine hK.out _ _ ⟨(by rw [ha.out]; exact putSel_upk 1 hb_ rfl rfl rfl), Q_HBr, Q_VT0, fun h0_ => absurd ((hoff 2 (by kernel_rfl)).symm.trans h0_) (by decide), Q_G1, Q_CH⟩
            refine steps_cons ?_ ?_
            · rintro b a w' ⟨ha, Q_HBr, Q_VT0, Q_VT1, Q_G1, Q_CH⟩ hb_ hon hoff
              refine ⟨_, rfl, fun K hK => ?_⟩
              have e28 : a.tmps[28]? = some (.iface 41 (.pointer (some ⟨g, 0, none⟩))) := by rw [ha]; exact putSel_on (e := (0, 28, .iface 41 (.pointer (some ⟨g, 0, none⟩)))) 0 rfl rfl (hon 0 (by kernel_rfl)) rfl
              have e29 : a.tmps[29]? = some (.iface 43 (.pointer (some ⟨tb, 0, none⟩))) := by rw [ha]; exact putSel_on (e := (1, 29, .iface 43 (.pointer (some ⟨tb, 0, none⟩)))) 1 rfl rfl (hon 1 (by kernel_rfl)) rfl
              replace ha := Aside0.mk ha
              have HBr := Aside0.mk Q_HBr
              have VT0 := Aside0.mk (Q_VT0 hb_)
              have G1 := Aside0.mk Q_G1
              have CH := Aside0.mk Q_CH
              refine goes_ Tryd.func20 (by kernel_rfl) rfl #[.iface 41 (.pointer (some ⟨g, 0, none⟩)), .iface 43 (.pointer (some ⟨tb, 0, none⟩))] (by rfl) rfl rfl (by first | (simp only [List.map_toArray, List.map_cons, List.map_nil, Act.eval, Array.getD_eq_getD_getElem?, Option.getD_some, e28, e29]; done) | (simp only [List.map_toArray, List.map_cons, List.map_nil, Act.eval, Array.getD_eq_getD_getElem?, Option.getD_some, e28, e29]; rfl)) ?_
              refine (as_b g tb _ w2 _ VT0.out (HS.out.below (below_step HB.out HBr.out)).typ HBr.out htl).mono ?_
              rintro e w1 ⟨rfl, hU, hB1⟩
              refine ⟨_, rfl, ?_⟩
              refine hK.out _ _ ⟨(by rw [ha.out]; exact putSel_upk 2 hb_ rfl rfl rfl), hB1, fun h0_ => absurd ((up_self b 2).symm.trans h0_) (by decide), fun _ => hU.2, ((hU.1.block g (blk_lt G1.out) HGT'.out).trans G1.out), (Ch_upd CH.out VT0.out hU)⟩
            refine steps_cons ?_ ?_
            · rintro b a w' ⟨ha, Q_HBr, Q_VT0, Q_VT1, Q_G1, Q_CH⟩ hb_ hon hoff
              refine ⟨_, rfl, fun K hK => ?_⟩
              have e30 : a.tmps[30]? = some (.bool true) := by rw [ha]; exact putSel_on (e := (2, 30, .bool true)) 2 rfl rfl (hon 2 (by kernel_rfl)) rfl
              replace ha := Aside0.mk ha
              have HBr := Aside0.mk Q_HBr
              have VT1 := Aside0.mk (Q_VT1 (hon 2 (by kernel_rfl)))
              have G1 := Aside0.mk Q_G1
              have CH := Aside0.mk Q_CH
              refine value_ (w1 := w') (v := .bool false) ?cA ?cB ?_ ?_
              case cA => rfl
              case cB => rfl
              · go_simp
                (try simp only [i64_w])
                try rfl
              refine hK.out _ _ ⟨(by rw [ha.out]; exact putSel_upk 3 hb_ rfl rfl rfl), Q_HBr, fun h0_ => absurd ((hon 2 (by kernel_rfl)).symm.trans h0_) (by decide), Q_VT1, Q_G1, Q_CH⟩
            refine steps_cons ?_ ?_
            · rintro b a w' ⟨ha, Q_HBr, Q_VT0, Q_VT1, Q_G1, Q_CH⟩ hb_ hon hoff
              refine ⟨_, rfl, fun K hK => ?_⟩
              have e31 : a.tmps[31]? = some (.bool false) := by rw [ha]; exact putSel_on (e := (3, 31, .bool false)) 3 rfl rfl (hon 3 (by kernel_rfl)) rfl
              replace ha := Aside0.mk ha
              have HBr := Aside0.mk Q_HBr
              have VT1 := Aside0.mk (Q_VT1 (hon 2 (by kernel_rfl)))
              have G1 := Aside0.mk Q_G1
              have CH := Aside0.mk Q_CH
              refine value_ (w1 := w') (v := .bool false) ?cA ?cB ?_ ?_
              case cA => rfl
              case cB => rfl
              · go_simp
                (try simp only [i64_w])
                try rfl
              refine hK.out _ _ ⟨(by rw [ha.out]; exact putSel_upk 4 hb_ rfl rfl rfl), Q_HBr, fun h0_ => absurd ((hon 2 (by kernel_rfl)).symm.trans h0_) (by decide), Q_VT1, Q_G1, Q_CH⟩
            refine steps_cons ?_ ?_
            · rintro b a w' ⟨ha, Q_HBr, Q_VT0, Q_VT1, Q_G1, Q_CH⟩ hb_ hon hoff
              refine ⟨_, rfl, fun K hK => ?_⟩
              have e7 : a.tmps[7]? = some (.pointer (some ⟨tb, 0, none⟩)) := by rw [ha]; exact (putSel_off rfl).trans rfl
              have e32 : a.tmps[32]? = some (.bool false) := by rw [ha]; exact putSel_on (e := (4, 32, .bool false)) 4 rfl rfl (hon 4 (by kernel_rfl)) rfl
              replace ha := Aside0.mk ha
              have HBr := Aside0.mk Q_HBr
              have VT1 := Aside0.mk (Q_VT1 (hon 2 (by kernel_rfl)))
              have G1 := Aside0.mk Q_G1
              have CH := Aside0.mk Q_CH
              have z0_ : w'.cell? ⟨tb, 0, none⟩ = some (.pointer (some ⟨g, 0, none⟩)) := (blk_cell (VT1.out) 0).trans rfl
              refine value_ (w1 := w') (v := .pointer (some ⟨g, 0, none⟩)) (wanted_on rfl rfl rfl (e32.trans (by first | rfl | (simp [*]; done)))) rfl ?_ ?_
              · go_simp
                (try simp only [i64_w])
                try rfl
              refine hK.out _ _ ⟨(by rw [ha.out]; exact putSel_upk 5 hb_ rfl rfl rfl), Q_HBr, fun h0_ => absurd ((hon 2 (by kernel_rfl)).symm.trans h0_) (by decide), Q_VT1, Q_G1, Q_CH⟩
            refine steps_cons ?_ ?_
            · rintro b a w' ⟨ha, Q_HBr, Q_VT0, Q_VT1, Q_G1, Q_CH⟩ hb_ hon hoff
              refine ⟨_, rfl, fun K hK => ?_⟩
              have e33 : a.tmps[33]? = some (.pointer (some ⟨g, 0, none⟩)) := by rw [ha]; exact putSel_on (e := (5, 33, .pointer (some ⟨g, 0, none⟩))) 5 rfl rfl (hon 5 (by kernel_rfl)) rfl
              have e32 : a.tmps[32]? = some (.bool false) := by rw [ha]; exact putSel_on (e := (4, 32, .bool false)) 4 rfl rfl (hon 4 (by kernel_rfl)) rfl
              replace ha := Aside0.mk ha
              have HBr := Aside0.mk Q_HBr
              have VT1 := Aside0.mk (Q_VT1 (hon 2 (by kernel_rfl)))
              have G1 := Aside0.mk Q_G1
              have CH := Aside0.mk Q_CH
              refine value_ (w1 := w') (v := .pointer (some ⟨g, 0, none⟩)) (wanted_on rfl rfl rfl (e32.trans (by first | rfl | (simp [*]; done)))) rfl ?_ ?_
              · go_simp
                (try simp only [i64_w])
                try rfl
              refine hK.out _ _ ⟨(by rw [ha.out]; exact putSel_upk 6 hb_ rfl rfl rfl), Q_HBr, fun h0_ => absurd ((hon 2 (by kernel_rfl)).symm.trans h0_) (by decide), Q_VT1, Q_G1, Q_CH⟩
            refine steps_cons ?_ ?_
            · rintro b a w' ⟨ha, Q_HBr, Q_VT0, Q_VT1, Q_G1, Q_CH⟩ hb_ hon hoff
              refine ⟨_, rfl, fun K hK => ?_⟩
              have e34 : a.tmps[34]? = some (.pointer (some ⟨g, 0, none⟩)) := by rw [ha]; exact putSel_on (e := (6, 34, .pointer (some ⟨g, 0, none⟩))) 6 rfl rfl (hon 6 (by kernel_rfl)) rfl
              have e32 : a.tmps[32]? = some (.bool false) := by rw [ha]; exact putSel_on (e := (4, 32, .bool false)) 4 rfl rfl (hon 4 (by kernel_rfl)) rfl
              replace ha := Aside0.mk ha
              have HBr := Aside0.mk Q_HBr
              have VT1 := Aside0.mk (Q_VT1 (hon 2 (by kernel_rfl)))
              have G1 := Aside0.mk Q_G1
              have CH := Aside0.mk Q_CH
              refine value_ (w1 := w') (v := .pointer (some ⟨g, 0, none⟩)) (wanted_on rfl rfl rfl (e32.trans (by first | rfl | (simp [*]; done)))) rfl ?_ ?_
              · go_simp
                (try simp only [i64_w])
                try rfl
              refine hK.out _ _ ⟨(by rw [ha.out]; exact putSel_upk 7 hb_ rfl rfl rfl), Q_HBr, fun h0_ => absurd ((hon 2 (by kernel_rfl)).symm.trans h0_) (by decide), Q_VT1, Q_G1, Q_CH⟩
            refine steps_cons ?_ ?_
            · rintro b a w' ⟨ha, Q_HBr, Q_VT0, Q_VT1, Q_G1, Q_CH⟩ hb_ hon hoff
              refine ⟨_, rfl, fun K hK => ?_⟩
              have e35 : a.tmps[35]? = some (.pointer (some ⟨g, 0, none⟩)) := by rw [ha]; exact putSel_on (e := (7, 35, .pointer (some ⟨g, 0, none⟩))) 7 rfl rfl (hon 7 (by kernel_rfl)) rfl
              have e32 : a.tmps[32]? = some (.bool false) := by rw [ha]; exact putSel_on (e := (4, 32, .bool false)) 4 rfl rfl (hon 4 (by kernel_rfl)) rfl
              replace ha := Aside0.mk ha
              have HBr := Aside0.mk Q_HBr
              have VT1 := Aside0.mk (Q_VT1 (hon 2 (by kernel_rfl)))
              have G1 := Aside0.mk Q_G1
              have CH := Aside0.mk Q_CH
              have z0_ : w'.cell? ⟨g, 0, none⟩ = some (.int .i64 (rd l1 (m1 : Int))) := (blk_cell (G1.out) 0).trans rfl
              refine value_ (w1 := w') (v := .int .i64 (rd l1 (m1 : Int))) (wanted_on rfl rfl rfl (e32.trans (by first | rfl | (simp [*]; done)))) rfl ?_ ?_
              · go_simp
                (try simp only [i64_w])
                try rfl
              refine hK.out _ _ ⟨(by rw [ha.out]; exact putSel_upk 8 hb_ rfl rfl rfl), Q_HBr, fun h0_ => absurd ((hon 2 (by kernel_rfl)).symm.trans h0_) (by decide), Q_VT1, Q_G1, Q_CH⟩
            refine steps_cons ?_ ?_
            · rintro b a w' ⟨ha, Q_HBr, Q_VT0, Q_VT1, Q_G1, Q_CH⟩ hb_ hon hoff
              refine ⟨_, rfl, fun K hK => ?_⟩
              have e1 : a.tmps[1]? = some (.slice (some ad) l1.length c1) := by rw [ha]; exact (putSel_off rfl).trans rfl
              have e32 : a.tmps[32]? = some (.bool false) := by rw [ha]; exact putSel_on (e := (4, 32, .bool false)) 4 rfl rfl (hon 4 (by kernel_rfl)) rfl
              replace ha := Aside0.mk ha
              have HBr := Aside0.mk Q_HBr
              have VT1 := Aside0.mk (Q_VT1 (hon 2 (by kernel_rfl)))
              have G1 := Aside0.mk Q_G1
              have CH := Aside0.mk Q_CH
              refine value_ (w1 := w') (v := .slice (some ad) l1.length c1) (wanted_on rfl rfl rfl (e32.trans (by first | rfl | (simp [*]; done)))) rfl ?_ ?_
              · go_simp
                (try simp only [i64_w])
                try rfl
              refine hK.out _ _ ⟨(by rw [ha.out]; exact putSel_upk 9 hb_ rfl rfl rfl), Q_HBr, fun h0_ => absurd ((hon 2 (by kernel_rfl)).symm.trans h0_) (by decide), Q_VT1, Q_G1, Q_CH⟩
            refine steps_cons ?_ ?_
            · rintro b a w' ⟨ha, Q_HBr, Q_VT0, Q_VT1, Q_G1, Q_CH⟩ hb_ hon hoff
              refine ⟨_, rfl, fun K hK => ?_⟩
              have e6 : a.tmps[6]? = some (.int .i64 (m1 : Int)) := by rw [ha]; exact (putSel_off rfl).trans rfl
              have e32 : a.tmps[32]? = some (.bool false) := by rw [ha]; exact putSel_on (e := (4, 32, .bool false)) 4 rfl rfl (hon 4 (by kernel_rfl)) rfl
              replace ha := Aside0.mk ha
              have HBr := Aside0.mk Q_HBr
              have VT1 := Aside0.mk (Q_VT1 (hon 2 (by kernel_rfl)))
              have G1 := Aside0.mk Q_G1
              have CH := Aside0.mk Q_CH
              refine value_ (w1 := w') (v := .int .i64 (m1 : Int)) (wanted_on rfl rfl rfl (e32.trans (by first | rfl | (simp [*]; done)))) rfl ?_ ?_
              · go_simp
                (try simp only [i64_w])
                try rfl
              refine hK.out _ _ ⟨(by rw [ha.out]; exact putSel_upk 10 hb_ rfl rfl rfl), Q_HBr, fun h0_ => absurd ((hon 2 (by kernel_rfl)).symm.trans h0_) (by decide), Q_VT1, Q_G1, Q_CH⟩
            refine steps_cons ?_ ?_
            · rintro b a w' ⟨ha, Q_HBr, Q_VT0, Q_VT1, Q_G1, Q_CH⟩ hb_ hon hoff
              refine ⟨_, rfl, fun K hK => ?_⟩
              have e37 : a.tmps[37]? = some (.slice (some ad) l1.length c1) := by rw [ha]; exact putSel_on (e := (9, 37, .slice (some ad) l1.length c1)) 9 rfl rfl (hon 9 (by kernel_rfl)) rfl
              have e38 : a.tmps[38]? = some (.int .i64 (m1 : Int)) := by rw [ha]; exact putSel_on (e := (10, 38, .int .i64 (m1 : Int))) 10 rfl rfl (hon 10 (by kernel_rfl)) rfl
              have e32 : a.tmps[32]? = some (.bool false) := by rw [ha]; exact putSel_on (e := (4, 32, .bool false)) 4 rfl rfl (hon 4 (by kernel_rfl)) rfl
              replace ha := Aside0.mk ha
              have HBr := Aside0.mk Q_HBr
              have VT1 := Aside0.mk (Q_VT1 (hon 2 (by kernel_rfl)))
              have G1 := Aside0.mk Q_G1
              have CH := Aside0.mk Q_CH
              refine value_ (w1 := w') (v := .pointer (some (ad.add m1))) (wanted_on rfl rfl rfl (e32.trans (by first | rfl | (simp [*]; done)))) rfl ?_ ?_
              · go_simp
                (try simp only [i64_w])
                try rfl
              refine hK.out _ _ ⟨(by rw [ha.out]; exact putSel_upk 11 hb_ rfl rfl rfl), Q_HBr, fun h0_ => absurd ((hon 2 (by kernel_rfl)).symm.trans h0_) (by decide), Q_VT1, Q_G1, Q_CH⟩
            refine steps_cons ?_ ?_
            · rintro b a w' ⟨ha, Q_HBr, Q_VT0, Q_VT1, Q_G1, Q_CH⟩ hb_ hon hoff
              refine ⟨_, rfl, fun K hK => ?_⟩
              have e39 : a.tmps[39]? = some (.pointer (some (ad.add m1))) := by rw [ha]; exact putSel_on (e := (11, 39, .pointer (some (ad.add m1)))) 11 rfl rfl (hon 11 (by kernel_rfl)) rfl
              have e32 : a.tmps[32]? = some (.bool false) := by rw [ha]; exact putSel_on (e := (4, 32, .bool false)) 4 rfl rfl (hon 4 (by kernel_rfl)) rfl
              replace ha := Aside0.mk ha
              have HBr := Aside0.mk Q_HBr
              have VT1 := Aside0.mk (Q_VT1 (hon 2 (by kernel_rfl)))
              have G1 := Aside0.mk Q_G1
              have CH := Aside0.mk Q_CH
              have z0_ := pw_cell_below HBr.out (pw_cell_below HB.out q0)
              refine value_ (w1 := w') (v := .int .i64 (rd l1 (m1 : Int))) (wanted_on rfl rfl rfl (e32.trans (by first | rfl | (simp [*]; done)))) rfl ?_ ?_
              · go_simp
                (try simp only [i64_w])
                try rfl
              refine hK.out _ _ ⟨(by rw [ha.out]; exact putSel_upk 12 hb_ rfl rfl rfl), Q_HBr, fun h0_ => absurd ((hon 2 (by kernel_rfl)).symm.trans h0_) (by decide), Q_VT1, Q_G1, Q_CH⟩
            refine steps_cons ?_ ?_
            · rintro b a w' ⟨ha, Q_HBr, Q_VT0, Q_VT1, Q_G1, Q_CH⟩ hb_ hon hoff
              refine ⟨_, rfl, fun K hK => ?_⟩
              have e36 : a.tmps[36]? = some (.int .i64 (rd l1 (m1 : Int))) := by rw [ha]; exact putSel_on (e := (8, 36, .int .i64 (rd l1 (m1 : Int)))) 8 rfl rfl (hon 8 (by kernel_rfl)) rfl
              have e40 : a.tmps[40]? = some (.int .i64 (rd l1 (m1 : Int))) := by rw [ha]; exact putSel_on (e := (12, 40, .int .i64 (rd l1 (m1 : Int)))) 12 rfl rfl (hon 12 (by kernel_rfl)) rfl
              have e32 : a.tmps[32]? = some (.bool false) := by rw [ha]; exact putSel_on (e := (4, 32, .bool false)) 4 rfl rfl (hon 4 (by kernel_rfl)) rfl
              replace ha := Aside0.mk ha
              have HBr := Aside0.mk Q_HBr
              have VT1 := Aside0.mk (Q_VT1 (hon 2 (by kernel_rfl)))
              have G1 := Aside0.mk Q_G1
              have CH := Aside0.mk Q_CH
              refine value_ (w1 := w') (v := .bool false) (wanted_on rfl rfl rfl (e32.trans (by first | rfl | (simp [*]; done)))) rfl ?_ ?_
              · go_simp
                (try simp only [i64_w])
                try rfl
              refine hK.out _ _ ⟨(by rw [ha.out]; exact putSel_upk 13 hb_ rfl rfl rfl), Q_HBr, fun h0_ => absurd ((hon 2 (by kernel_rfl)).symm.trans h0_) (by decide), Q_VT1, Q_G1, Q_CH⟩
            refine steps_cons ?_ ?_
            · rintro b a w' ⟨ha, Q_HBr, Q_VT0, Q_VT1, Q_G1, Q_CH⟩ hb_ hon hoff
              refine ⟨_, rfl, fun K hK => ?_⟩
              have e32 : a.tmps[32]? = some (.bool false) := by rw [ha]; exact putSel_on (e := (4, 32, .bool false)) 4 rfl rfl (hon 4 (by kernel_rfl)) rfl
              have e41 : a.tmps[41]? = some (.bool false) := by rw [ha]; exact putSel_on (e := (13, 41, .bool false)) 13 rfl rfl (hon 13 (by kernel_rfl)) rfl
              replace ha := Aside0.mk ha
              have HBr := Aside0.mk Q_HBr
              have VT1 := Aside0.mk (Q_VT1 (hon 2 (by kernel_rfl)))
              have G1 := Aside0.mk Q_G1
              have CH := Aside0.mk Q_CH
              refine value_ (w1 := w') (v := .bool false) ?cA ?cB ?_ ?_
              case cA => rfl
              case cB => rfl
              · go_simp
                (try simp only [i64_w])
                try rfl
              refine hK.out _ _ ⟨(by rw [ha.out]; exact putSel_upk 14 hb_ rfl rfl rfl), Q_HBr, fun h0_ => absurd ((hon 2 (by kernel_rfl)).symm.trans h0_) (by decide), Q_VT1, Q_G1, Q_CH⟩
            refine steps_cons ?_ ?_
            · rintro b a w' ⟨ha, Q_HBr, Q_VT0, Q_VT1, Q_G1, Q_CH⟩ hb_ hon hoff
              refine ⟨_, rfl, fun K hK => ?_⟩
              have e42 : a.tmps[42]? = some (.bool false) := by rw [ha]; exact putSel_on (e := (14, 42, .bool false)) 14 rfl rfl (hon 14 (by kernel_rfl)) rfl
              replace ha := Aside0.mk ha
              have HBr := Aside0.mk Q_HBr
              have VT1 := Aside0.mk (Q_VT1 (hon 2 (by kernel_rfl)))
              have G1 := Aside0.mk Q_G1
              have CH := Aside0.mk Q_CH
              refine value_ (w1 := w') (v := .bool false) ?cA ?cB ?_ ?_
              case cA => rfl
              case cB => rfl
              · go_simp
                (try simp only [i64_w])
                try rfl
              refine hK.out _ _ ⟨(by rw [ha.out]; exact putSel_upk 15 hb_ rfl rfl rfl), Q_HBr, fun h0_ => absurd ((hon 2 (by kernel_rfl)).symm.trans h0_) (by decide), Q_VT1, Q_G1, Q_CH⟩
            refine steps_cons ?_ ?_
            · rintro b a w' ⟨ha, Q_HBr, Q_VT0, Q_VT1, Q_G1, Q_CH⟩ hb_ hon hoff
              refine ⟨_, rfl, fun K hK => ?_⟩
              have e7 : a.tmps[7]? = some (.pointer (some ⟨tb, 0, none⟩)) := by rw [ha]; exact (putSel_off rfl).trans rfl
              have e43 : a.tmps[43]? = some (.bool false) := by rw [ha]; exact putSel_on (e := (15, 43, .bool false)) 15 rfl rfl (hon 15 (by kernel_rfl)) rfl
              replace ha := Aside0.mk ha
              have HBr := Aside0.mk Q_HBr
              have VT1 := Aside0.mk (Q_VT1 (hon 2 (by kernel_rfl)))
              have G1 := Aside0.mk Q_G1
              have CH := Aside0.mk Q_CH
              have z0_ : w'.cell? ⟨tb, 0, none⟩ = some (.pointer (some ⟨g, 0, none⟩)) := (blk_cell (VT1.out) 0).trans rfl
              refine value_ (w1 := w') (v := .pointer (some ⟨g, 0, none⟩)) (wanted_on rfl rfl rfl (e43.trans (by first | rfl | (simp [*]; done)))) rfl ?_ ?_
              · go_simp
                (try simp only [i64_w])
                try rfl
              refine hK.out _ _ ⟨(by rw [ha.out]; exact putSel_upk 16 hb_ rfl rfl rfl), Q_HBr, fun h0_ => absurd ((hon 2 (by kernel_rfl)).symm.trans h0_) (by decide), Q_VT1, Q_G1, Q_CH⟩
            refine steps_cons ?_ ?_
            · rintro b a w' ⟨ha, Q_HBr, Q_VT0, Q_VT1, Q_G1, Q_CH⟩ hb_ hon hoff
              refine ⟨_, rfl, fun K hK => ?_⟩
              have e44 : a.tmps[44]? = some (.pointer (some ⟨g, 0, none⟩)) := by rw [ha]; exact putSel_on (e := (16, 44, .pointer (some ⟨g, 0, none⟩))) 16 rfl rfl (hon 16 (by kernel_rfl)) rfl
              have e43 : a.tmps[43]? = some (.bool false) := by rw [ha]; exact putSel_on (e := (15, 43, .bool false)) 15 rfl rfl (hon 15 (by kernel_rfl)) rfl
              replace ha := Aside0.mk ha
              have HBr := Aside0.mk Q_HBr
              have VT1 := Aside0.mk (Q_VT1 (hon 2 (by kernel_rfl)))
              have G1 := Aside0.mk Q_G1
              have CH := Aside0.mk Q_CH
              refine goes_ Tryd.func21 (by kernel_rfl) rfl #[.pointer (some ⟨g, 0, none⟩)] (wanted_on rfl rfl rfl (e43.trans (by first | rfl | (simp [*]; done)))) rfl rfl (by first | (simp only [List.map_toArray, List.map_cons, List.map_nil, Act.eval, Array.getD_eq_getD_getElem?, Option.getD_some, e44, e43]; done) | (simp only [List.map_toArray, List.map_cons, List.map_nil, Act.eval, Array.getD_eq_getD_getElem?, Option.getD_some, e44, e43]; rfl)) ?_
              refine (error_c _ _).mono ?_
              rintro e w1 ⟨rfl, hb1⟩
              refine ⟨_, rfl, ?_⟩
              refine hK.out _ _ ⟨(by rw [ha.out]; exact putSel_upk 17 hb_ rfl rfl rfl), below_step HBr.out hb1, fun h0_ => absurd ((hon 2 (by kernel_rfl)).symm.trans h0_) (by decide), fun _ => blk_below hb1 VT1.out, blk_below hb1 G1.out, Ch_below CH.out hb1⟩
            refine steps_cons ?_ ?_
            · rintro b a w' ⟨ha, Q_HBr, Q_VT0, Q_VT1, Q_G1, Q_CH⟩ hb_ hon hoff
              refine ⟨_, rfl, fun K hK => ?_⟩
              have e45 : a.tmps[45]? = some (.string ⟨#[119, 111, 101]⟩) := by rw [ha]; exact putSel_on (e := (17, 45, .string ⟨#[119, 111, 101]⟩)) 17 rfl rfl (hon 17 (by kernel_rfl)) rfl
              have e43 : a.tmps[43]? = some (.bool false) := by rw [ha]; exact putSel_on (e := (15, 43, .bool false)) 15 rfl rfl (hon 15 (by kernel_rfl)) rfl
              replace ha := Aside0.mk ha
              have HBr := Aside0.mk Q_HBr
              have VT1 := Aside0.mk (Q_VT1 (hon 2 (by kernel_rfl)))
              have G1 := Aside0.mk Q_G1
              have CH := Aside0.mk Q_CH
              refine value_ (w1 := w') (v := .bool false) (wanted_on rfl rfl rfl (e43.trans (by first | rfl | (simp [*]; done)))) rfl ?_ ?_
              · go_simp
                (try simp only [i64_w])
                try rfl
              refine hK.out _ _ ⟨(by rw [ha.out]; exact putSel_upk 18 hb_ rfl rfl rfl), Q_HBr, fun h0_ => absurd ((hon 2 (by kernel_rfl)).symm.trans h0_) (by decide), Q_VT1, Q_G1, Q_CH⟩
            refine steps_cons ?_ ?_
            · rintro b a w' ⟨ha, Q_HBr, Q_VT0, Q_VT1, Q_G1, Q_CH⟩ hb_ hon hoff
              refine ⟨_, rfl, fun K hK => ?_⟩
              have e43 : a.tmps[43]? = some (.bool false) := by rw [ha]; exact putSel_on (e := (15, 43, .bool false)) 15 rfl rfl (hon 15 (by kernel_rfl)) rfl
              have e46 : a.tmps[46]? = some (.bool false) := by rw [ha]; exact putSel_on (e := (18, 46, .bool false)) 18 rfl rfl (hon 18 (by kernel_rfl)) rfl
              replace ha := Aside0.mk ha
              have HBr := Aside0.mk Q_HBr
              have VT1 := Aside0.mk (Q_VT1 (hon 2 (by kernel_rfl)))
              have G1 := Aside0.mk Q_G1
              have CH := Aside0.mk Q_CH
              refine value_ (w1 := w') (v := .bool false) ?cA ?cB ?_ ?_
              case cA => rfl
              case cB => rfl
              · go_simp
                (try simp only [i64_w])
                try rfl
              refine hK.out _ _ ⟨(by rw [ha.out]; exact putSel_upk 19 hb_ rfl rfl rfl), Q_HBr, fun h0_ => absurd ((hon 2 (by kernel_rfl)).symm.trans h0_) (by decide), Q_VT1, Q_G1, Q_CH⟩
            exact steps_nil
          rintro b a w' hall ⟨ha, Q_HBr, Q_VT0, Q_VT1, Q_G1, Q_CH⟩
          clear CH G1 HBr VT0
          have hb0_ := hall 0 (by kernel_rfl)
          have hb1_ := hall 1 (by kernel_rfl)
          have hb2_ := hall 2 (by kernel_rfl)
          have hb3_ := hall 3 (by kernel_rfl)
          have hb4_ := hall 4 (by kernel_rfl)
          have hb5_ := hall 5 (by kernel_rfl)
          have hb6_ := hall 6 (by kernel_rfl)
          have hb7_ := hall 7 (by kernel_rfl)
          have hb8_ := hall 8 (by kernel_rfl)
          have hb9_ := hall 9 (by kernel_rfl)
          have hb10_ := hall 10 (by kernel_rfl)
          have hb11_ := hall 11 (by kernel_rfl)
          have hb12_ := hall 12 (by kernel_rfl)
          have hb13_ := hall 13 (by kernel_rfl)
          have hb14_ := hall 14 (by kernel_rfl)
          have hb15_ := hall 15 (by kernel_rfl)
          have hb16_ := hall 16 (by kernel_rfl)
          have hb17_ := hall 17 (by kernel_rfl)
          have hb18_ := hall 18 (by kernel_rfl)
          have hb19_ := hall 19 (by kernel_rfl)
          subst ha
          simp only [putSel, hb0_, hb1_, hb2_, hb3_, hb4_, hb5_, hb6_, hb7_, hb8_, hb9_, hb10_, hb11_, hb12_, hb13_, hb14_, hb15_, hb16_, hb17_, hb18_, hb19_, if_true, Act.put, List.setIfInBounds_toArray, List.set_cons_zero, List.set_cons_succ]
          have HBr := Aside0.mk Q_HBr
          clear Q_HBr
          clear Q_VT0
          have VT1 := Aside0.mk (Q_VT1 hb2_)
          clear Q_VT1
          have G1 := Aside0.mk Q_G1
          clear Q_G1
          have CH := Aside0.mk Q_CH
          clear Q_CH
          clear hall hb0_ hb1_ hb2_ hb3_ hb4_ hb5_ hb6_ hb7_ hb8_ hb9_ hb10_ hb11_ hb12_ hb13_ hb14_ hb15_ hb16_ hb17_ hb18_ hb19_
          have c0 := (blk_cell VT1.out 0).trans rfl
          go_wp2_with fail
          refine (unwrap_c g _ _ w' G1.out).mono ?_
          rintro e w9 ⟨rfl, rfl⟩
          clear c0
          try clear HT_ HW_ hHeld
          go_wp2
          go_roundw
          case rel => exact ⟨m1, by omega, rfl, CH.out, HBr.out⟩
          case measure => simp [intOf]
end Go.Proofs.YtlednfddidpcdaaDoor.Wo
