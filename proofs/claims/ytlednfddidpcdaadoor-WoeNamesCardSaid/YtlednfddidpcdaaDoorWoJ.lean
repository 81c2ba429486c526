/- WoeNames' walk. (Partly printed by gen_names.py.) -/
import Derived.Test.YtlednfddidpcdaaDoorWoG
import Derived.Test.YtlednfddidpcdaaDoorWInvWords
namespace Go.Proofs.YtlednfddidpcdaaDoor.Wo
open Go.RowKit Go.Extern.Stop Go.Stop Go.Extern Go.Proofs.YtlednfddidpcdaaDoorW.PrintWords Go.Proofs.YtlednfddidpcdaaDoorW.PrintLast Go.Proofs.YtlednfddidpcdaaDoorW.PrintMore Go.Proofs.YtlednfddidpcdaaDoor.X
set_option linter.unusedVariables false
set_option linter.unusedSimpArgs false

theorem of_yes' (s : Nat → Addr) (i : Nat) (c : Int) (hi : 1 ≤ i ∧ i ≤ 11) (hc : c = (i : Int)) (w : World) (hs : Sents w s) : Calls Tryd.prog 17 #[.int .i64 c] w fun e w' => e = .returned (Sent (s i)) ∧ w' = w := by
  obtain ⟨n, rfl⟩ : ∃ n, i = n + 1 := ⟨i - 1, by omega⟩
  exact of_yes s n (by omega) c (by rw [hc]; push_cast; rfl) w hs
def named (s : Nat → Addr) : Array Value := #[.nilIface, Sent (s 1), Sent (s 2), Sent (s 3), Sent (s 4), Sent (s 5), Sent (s 6), Sent (s 7), Sent (s 8), Sent (s 9), Sent (s 10), Sent (s 11)]
theorem named_at (s : Nat → Addr) (k : Nat) (h1 : 1 ≤ k) (h2 : k ≤ 11) : (named s)[k]? = some (Sent (s k)) := by
  have h : k = 1 ∨ k = 2 ∨ k = 3 ∨ k = 4 ∨ k = 5 ∨ k = 6 ∨ k = 7 ∨ k = 8 ∨ k = 9 ∨ k = 10 ∨ k = 11 := by omega
  rcases h with rfl | rfl | rfl | rfl | rfl | rfl | rfl | rfl | rfl | rfl | rfl <;> rfl
theorem Sents.blk' {w : World} {s : Nat → Addr} (h : Sents w s) (k : Nat) (h1 : 1 ≤ k) (h2 : k ≤ 11) : Blk w (s k) := by
  obtain ⟨n, rfl⟩ : ∃ n, k = n + 1 := ⟨k - 1, by omega⟩
  exact h.blk n (by omega)
theorem Sents.ne' {w : World} {s : Nat → Addr} (h : Sents w s) (i k : Nat) (h1 : 1 ≤ k) (h2 : k ≤ 11) (h3 : 1 ≤ i) (h4 : i ≤ 11) (hn : i ≠ k) : s i ≠ s k := by
  obtain ⟨n, rfl⟩ : ∃ n, k = n + 1 := ⟨k - 1, by omega⟩
  obtain ⟨m, rfl⟩ : ∃ n, i = n + 1 := ⟨i - 1, by omega⟩
  intro he
  have := h.inj m n (by omega) (by omega) he
  omega
def wnamesY.T13 : Bool × List (List Nat × List Nat) := (true, [([], []), ([], []), ([1], [1]), ([2], [2]), ([0, 3], [0, 3]), ([], []), ([], []), ([5, 6], [5, 6]), ([4, 7], [4, 7]), ([8, 4], [8]), ([9], [9]), ([10, 9, 9], [9, 10]), ([9], [9]), ([12, 9], [9, 12]), ([13, 9], [9, 13]), ([11, 14, 11, 9], [9, 11, 14]), ([9], [9]), ([9], [9]), ([16, 17, 9], [9, 16, 17]), ([15, 18, 9], [9, 15, 18]), ([9, 19], [9, 19])])
def wnamesY.B13 : List Nat := [0, 0, 2, 6, 15, 0, 0, 96, 255, 511, 1023, 2047, 1023, 5119, 13311, 32767, 1023, 1023, 197631, 524287, 1048575]
theorem wnamesY.tab13 : rtab .any (opsOf Tryd.f4 13) = wnamesY.T13 := by kernel_rfl
theorem wnamesY.bits13 : waitsOk wnamesY.T13.2 wnamesY.B13 = true := by kernel_rfl
def wnamesN.T13 : Bool × List (List Nat × List Nat) := (true, [([], []), ([], []), ([1], [1]), ([2], [2]), ([0, 3], [0, 3]), ([], []), ([], []), ([5, 6], [5, 6]), ([4, 7], [4, 7]), ([8, 4], [8]), ([9], [9]), ([10, 9, 9], [9, 10]), ([9], [9]), ([12, 9], [9, 12]), ([13, 9], [9, 13]), ([11, 14, 11, 9], [9, 11, 14]), ([9], [9]), ([9], [9]), ([16, 17, 9], [9, 16, 17]), ([15, 18, 9], [9, 15, 18]), ([9, 19], [9, 19])])
def wnamesN.B13 : List Nat := [0, 0, 2, 6, 15, 0, 0, 96, 255, 511, 1023, 2047, 1023, 5119, 13311, 32767, 1023, 1023, 197631, 524287, 1048575]
theorem wnamesN.tab13 : rtab .any (opsOf Tryd.f4 13) = wnamesN.T13 := by kernel_rfl
theorem wnamesN.bits13 : waitsOk wnamesN.T13.2 wnamesN.B13 = true := by kernel_rfl
set_option maxHeartbeats 2000000 in
set_option maxRecDepth 100000 in
theorem names_walk (s : Nat → Addr) (A0 : Option Addr) (c0 : Nat) (l0 : List Int) (W : World) (hs : Sents W s) (hC0 : Kd.C (Kd.int .i64) W A0 l0.length l0) (hl0 : l0.length ≤ c0) :
    Calls Tryd.prog 4 #[.slice A0 l0.length c0] W fun e w' => e = .returned (.bool true) ∧ Below W.heap.size W w' := by
  have hlen := Kd.C_max hC0
  have HA := awake_c s W hs
  have HS := Aside0.mk hs
  clear hs
  have HC0 := Aside0.mk hC0
  clear hC0
  go_enter Tryd.func4, Tryd.ntmps4
  go_wp2_with fail
  refine HA.mono ?_
  rintro e w1 ⟨rfl, hb⟩
  have HB := Aside0.mk hb
  clear hb HA
  by_cases g1 : 40 < l0.length
  · have g1' : (40 : Int) < (l0.length : Int) := by omega
    go_wp2
    go_ret
    exact ⟨rfl, HB.out⟩
  · have g1' : (l0.length : Int) ≤ 40 := by omega
    have hsx := HS.out.below HB.out
    have z0 := hsx.cell 0 (by omega)
    have z1 := hsx.cell 1 (by omega)
    have z2 := hsx.cell 2 (by omega)
    have z3 := hsx.cell 3 (by omega)
    have z4 := hsx.cell 4 (by omega)
    have z5 := hsx.cell 5 (by omega)
    have z6 := hsx.cell 6 (by omega)
    have z7 := hsx.cell 7 (by omega)
    have z8 := hsx.cell 8 (by omega)
    have z9 := hsx.cell 9 (by omega)
    have z10 := hsx.cell 10 (by omega)
    simp only [Nat.reduceAdd] at z0 z1 z2 z3 z4 z5 z6 z7 z8 z9 z10
    clear hsx
    go_wp2
    obtain ⟨g1, hg1⟩ : ∃ g, g = w1.heap.size := ⟨_, rfl⟩
    have hbk := blk_new w1 (.cells (named s) 34)
    have hba := below_alloc (Below.refl w1.heap.size w1) (.cells (named s) 34)
    rw [← hg1] at hbk hba ⊢
    obtain ⟨w2, hw2⟩ : ∃ w2, w2 = w1.alloc (.cells (named s) 34) := ⟨_, rfl⟩
    rw [← hw2] at hbk hba
    change Code.wp _ _ _ _ (w1.alloc (.cells (named s) 34))
    rw [← hw2]
    replace HB := Aside0.mk (below_step HB.out (by rw [hg1] at hba; exact hba))
    have HG := Aside0.mk hbk
    clear hbk hba hw2 hg1 z0 z1 z2 z3 z4 z5 z6 z7 z8 z9 z10
    go_loopw [4] (fun i wr => ∃ n : Nat, 1 ≤ n ∧ n ≤ 12 ∧ i = .int .i64 (n : Int) ∧ Below w2.heap.size w2 wr) (fun i _ => 12 - (intOf i).toNat)
    case atStart => exact ⟨1, by omega, by omega, rfl, Below.refl _ _⟩
    case round =>
      obtain ⟨i, hi1, hi2, rfl, hbl⟩ := hrel
      have HBL := Aside0.mk hbl
      clear hbl
      by_cases hlt : i < 12
      · have hh := wrapped_yes s (i - 1) (by omega) (i : Int) (by omega) A0 c0 l0 wr (HS.out.below (below_step HB.out HBL.out)) (Kd.C_below HC0.out (below_step HB.out HBL.out))
        rw [show i - 1 + 1 = i by omega] at hh
        have HH := Aside0.mk hh
        clear hh
        have hi' : (i : Int) < 12 := by omega
        go_wp2_with fail
        refine HH.out.mono ?_
        rintro e w3 ⟨v, rfl, hc, hb⟩
        obtain ⟨T, x, rfl⟩ := Ch_shape hc
        replace HBL := Aside0.mk (below_step HBL.out hb)
        have HC := Aside0.mk hc
        have hws := HS.out.below (below_step HB.out HBL.out)
        have hbi := hws.blk' i hi1 (by omega)
        have hgg := blk_below HBL.out HG.out
        have HBI := Aside0.mk hbi
        clear hbi
        have HWS := Aside0.mk hws
        clear hws
        have HGG := Aside0.mk hgg
        clear hgg
        have hi12 := hlt
        have hi1x : 1 ≤ i ∧ i ≤ 11 := ⟨hi1, by omega⟩
        have hki := named_at s i hi1 (by omega)
        have HI12 := Aside0.mk hi12
        clear hi12
        have HI1X := Aside0.mk hi1x
        clear hi1x
        have HKI := Aside0.mk hki
        clear hki
        clear hb hc HH
        go_wp2
        go_loopw [6] (fun k wr => ∃ n : Nat, 1 ≤ n ∧ n ≤ 12 ∧ k = .int .i64 (n : Int) ∧ Below w3.heap.size w3 wr) (fun k _ => 12 - (intOf k).toNat)
        case atStart => exact ⟨1, by omega, by omega, rfl, Below.refl _ _⟩
        case round =>
          obtain ⟨k, hk1, hk2, rfl, hbq⟩ := hrel
          have HBQ := Aside0.mk hbq
          clear hbq
          by_cases hltk : k < 12
          · have hk12 := hltk
            have hkk := named_at s k hk1 (by omega)
            have hbk := HWS.out.blk' k hk1 (by omega)
            have HK12 := Aside0.mk hk12
            clear hk12
            have HKK := Aside0.mk hkk
            clear hkk
            have HBK := Aside0.mk hbk
            clear hbk
            have hk' : (k : Int) < 12 := by omega
            by_cases heq : i = k
            · subst heq
              go_wp2
              refine start_ (n := 21) (S := fun w' => True) (ds := []) #[false, false, false, false, false, false, false, false, false, false, false, false, false, false, false, false, false, false, false, false, false] (by kernel_rfl) rfl rfl trivial (fun hHeld => ?_)
              refine with_tabW wnamesY.tab13 wnamesY.bits13 (fun HT_ HW_ => ?_)
              have HBr := Aside0.mk (below_drew1 HBQ.out)
              refine inv_at [0, 1, 2, 3, 4, 5, 6, 7, 8, 9, 10, 11, 12, 13, 14, 15, 16, 17, 18, 19, 20] (fun a0_ b a w' => a = putSel a0_ b [(0, 35, .iface T x), (1, 36, .int .i64 ((i : Nat) : Int)), (2, 37, .pointer (some ⟨g1, i, none⟩)), (3, 38, Sent (s i)), (4, 39, .bool true), (5, 40, .int .i64 ((i : Nat) : Int)), (6, 41, .int .i64 ((i : Nat) : Int)), (7, 42, .bool true), (8, 43, .bool false), (9, 44, .bool false), (10, 45, .int .i64 ((i : Nat) : Int)), (11, 46, Sent (s i)), (12, 47, .int .i64 ((i : Nat) : Int)), (13, 48, .pointer (some ⟨g1, i, none⟩)), (14, 49, Sent (s i)), (15, 50, .bool true), (16, 51, .int .i64 ((i : Nat) : Int)), (17, 52, .int .i64 ((i : Nat) : Int)), (18, 53, .bool true), (19, 54, .bool false), (20, 55, .bool false)] ∧ (Below w3.heap.size w3 w')) HT_.out HW_.out (by kernel_rfl) (by kernel_rfl) ?_ ?_ ?_
              · exact ⟨by simp only [putSel, Bool.false_eq_true, if_false], HBr.out⟩
              · skip
                clear HBr
                refine steps_cons ?_ ?_
                · rintro b a w' ⟨ha, Q_HBr⟩ hb_ hon hoff
                  refine ⟨_, rfl, fun K hK => ?_⟩
                  have e5 : a.tmps[5]? = some (.iface T x) := by rw [ha]; exact (putSel_off rfl).trans rfl
                  replace ha := Aside0.mk ha
                  have HBr := Aside0.mk Q_HBr
                  refine value_ (w1 := w') (v := .iface T x) ?cA ?cB ?_ ?_
                  case cA => rfl
                  case cB => rfl
                  · go_simp
                    (try simp only [i64_w])
                    try rfl
                  refine hK.out _ _ ⟨(by rw [ha.out]; exact putSel_upk 0 hb_ rfl rfl rfl), Q_HBr⟩
                refine steps_cons ?_ ?_
                · rintro b a w' ⟨ha, Q_HBr⟩ hb_ hon hoff
                  refine ⟨_, rfl, fun K hK => ?_⟩
                  have e6 : a.tmps[6]? = some (.int .i64 ((i : Nat) : Int)) := by rw [ha]; exact (putSel_off rfl).trans rfl
                  replace ha := Aside0.mk ha
                  have HBr := Aside0.mk Q_HBr
                  refine value_ (w1 := w') (v := .int .i64 ((i : Nat) : Int)) ?cA ?cB ?_ ?_
                  case cA => rfl
                  case cB => rfl
                  · go_simp
                    (try simp only [i64_w])
                    try rfl
                  refine hK.out _ _ ⟨(by rw [ha.out]; exact putSel_upk 1 hb_ rfl rfl rfl), Q_HBr⟩
                refine steps_cons ?_ ?_
                · rintro b a w' ⟨ha, Q_HBr⟩ hb_ hon hoff
                  refine ⟨_, rfl, fun K hK => ?_⟩
                  have e3 : a.tmps[3]? = some (.pointer (some ⟨g1, 0, none⟩)) := by rw [ha]; exact (putSel_off rfl).trans rfl
                  have e36 : a.tmps[36]? = some (.int .i64 ((i : Nat) : Int)) := by rw [ha]; exact putSel_on (e := (1, 36, .int .i64 ((i : Nat) : Int))) 1 rfl rfl (hon 1 (by kernel_rfl)) rfl
                  replace ha := Aside0.mk ha
                  have HBr := Aside0.mk Q_HBr
                  have z1_ : ((i : Nat) : Int) < 12 := by have := HI12.out; omega
                  have z2_ : (0 : Int) ≤ ((i : Nat) : Int) := Int.natCast_nonneg _
                  refine value_ (w1 := w') (v := .pointer (some ⟨g1, i, none⟩)) ?cA ?cB ?_ ?_
                  case cA => rfl
                  case cB => rfl
                  · go_simp
                    (try simp only [i64_w])
                    try rfl
                  refine hK.out _ _ ⟨(by rw [ha.out]; exact putSel_upk 2 hb_ rfl rfl rfl), Q_HBr⟩
                refine steps_cons ?_ ?_
                · rintro b a w' ⟨ha, Q_HBr⟩ hb_ hon hoff
                  refine ⟨_, rfl, fun K hK => ?_⟩
                  have e37 : a.tmps[37]? = some (.pointer (some ⟨g1, i, none⟩)) := by rw [ha]; exact putSel_on (e := (2, 37, .pointer (some ⟨g1, i, none⟩))) 2 rfl rfl (hon 2 (by kernel_rfl)) rfl
                  replace ha := Aside0.mk ha
                  have HBr := Aside0.mk Q_HBr
                  have z_ : w'.cell? ⟨g1, i, none⟩ = some (Sent (s i)) := (blk_cell (blk_below HBr.out HGG.out) i).trans HKI.out
                  refine value_ (w1 := w') (v := Sent (s i)) ?cA ?cB ?_ ?_
                  case cA => rfl
                  case cB => rfl
                  · go_simp
                    (try simp only [i64_w])
                    try rfl
                  refine hK.out _ _ ⟨(by rw [ha.out]; exact putSel_upk 3 hb_ rfl rfl rfl), Q_HBr⟩
                refine steps_cons ?_ ?_
                · rintro b a w' ⟨ha, Q_HBr⟩ hb_ hon hoff
                  refine ⟨_, rfl, fun K hK => ?_⟩
                  have e35 : a.tmps[35]? = some (.iface T x) := by rw [ha]; exact putSel_on (e := (0, 35, .iface T x)) 0 rfl rfl (hon 0 (by kernel_rfl)) rfl
                  have e38 : a.tmps[38]? = some (Sent (s i)) := by rw [ha]; exact putSel_on (e := (3, 38, Sent (s i))) 3 rfl rfl (hon 3 (by kernel_rfl)) rfl
                  replace ha := Aside0.mk ha
                  have HBr := Aside0.mk Q_HBr
                  refine goes_ Tryd.func16 (by kernel_rfl) rfl #[.iface T x, Sent (s i)] (by rfl) rfl rfl (by first | (simp only [List.map_toArray, List.map_cons, List.map_nil, Act.eval, Array.getD_eq_getD_getElem?, Option.getD_some, e35, e38]; done) | (simp only [List.map_toArray, List.map_cons, List.map_nil, Act.eval, Array.getD_eq_getD_getElem?, Option.getD_some, e35, e38]; rfl)) ?_
                  refine (is_yes (Ch_below HC.out HBr.out) (Blk_below HBI.out HBr.out) (Blk_below HBI.out HBr.out) rfl).mono ?_
                  rintro e w1 ⟨rfl, rfl⟩
                  refine ⟨_, rfl, ?_⟩
                  refine hK.out _ _ ⟨(by rw [ha.out]; exact putSel_upk 4 hb_ rfl rfl rfl), below_step HBr.out (Below.refl _ _)⟩
                refine steps_cons ?_ ?_
                · rintro b a w' ⟨ha, Q_HBr⟩ hb_ hon hoff
                  refine ⟨_, rfl, fun K hK => ?_⟩
                  have e4 : a.tmps[4]? = some (.int .i64 ((i : Nat) : Int)) := by rw [ha]; exact (putSel_off rfl).trans rfl
                  replace ha := Aside0.mk ha
                  have HBr := Aside0.mk Q_HBr
                  refine value_ (w1 := w') (v := .int .i64 ((i : Nat) : Int)) ?cA ?cB ?_ ?_
                  case cA => rfl
                  case cB => rfl
                  · go_simp
                    (try simp only [i64_w])
                    try rfl
                  refine hK.out _ _ ⟨(by rw [ha.out]; exact putSel_upk 5 hb_ rfl rfl rfl), Q_HBr⟩
                refine steps_cons ?_ ?_
                · rintro b a w' ⟨ha, Q_HBr⟩ hb_ hon hoff
                  refine ⟨_, rfl, fun K hK => ?_⟩
                  have e6 : a.tmps[6]? = some (.int .i64 ((i : Nat) : Int)) := by rw [ha]; exact (putSel_off rfl).trans rfl
                  replace ha := Aside0.mk ha
                  have HBr := Aside0.mk Q_HBr
                  refine value_ (w1 := w') (v := .int .i64 ((i : Nat) : Int)) ?cA ?cB ?_ ?_
                  case cA => rfl
                  case cB => rfl
                  · go_simp
                    (try simp only [i64_w])
                    try rfl
                  refine hK.out _ _ ⟨(by rw [ha.out]; exact putSel_upk 6 hb_ rfl rfl rfl), Q_HBr⟩
                refine steps_cons ?_ ?_
                · rintro b a w' ⟨ha, Q_HBr⟩ hb_ hon hoff
                  refine ⟨_, rfl, fun K hK => ?_⟩
                  have e40 : a.tmps[40]? = some (.int .i64 ((i : Nat) : Int)) := by rw [ha]; exact putSel_on (e := (5, 40, .int .i64 ((i : Nat) : Int))) 5 rfl rfl (hon 5 (by kernel_rfl)) rfl
                  have e41 : a.tmps[41]? = some (.int .i64 ((i : Nat) : Int)) := by rw [ha]; exact putSel_on (e := (6, 41, .int .i64 ((i : Nat) : Int))) 6 rfl rfl (hon 6 (by kernel_rfl)) rfl
                  replace ha := Aside0.mk ha
                  have HBr := Aside0.mk Q_HBr
                  refine value_ (w1 := w') (v := .bool true) ?cA ?cB ?_ ?_
                  case cA => rfl
                  case cB => rfl
                  · go_simp
                    (try simp only [i64_w])
                    try rfl
                  refine hK.out _ _ ⟨(by rw [ha.out]; exact putSel_upk 7 hb_ rfl rfl rfl), Q_HBr⟩
                refine steps_cons ?_ ?_
                · rintro b a w' ⟨ha, Q_HBr⟩ hb_ hon hoff
                  refine ⟨_, rfl, fun K hK => ?_⟩
                  have e39 : a.tmps[39]? = some (.bool true) := by rw [ha]; exact putSel_on (e := (4, 39, .bool true)) 4 rfl rfl (hon 4 (by kernel_rfl)) rfl
                  have e42 : a.tmps[42]? = some (.bool true) := by rw [ha]; exact putSel_on (e := (7, 42, .bool true)) 7 rfl rfl (hon 7 (by kernel_rfl)) rfl
                  replace ha := Aside0.mk ha
                  have HBr := Aside0.mk Q_HBr
                  refine value_ (w1 := w') (v := .bool false) ?cA ?cB ?_ ?_
                  case cA => rfl
                  case cB => rfl
                  · go_simp
                    (try simp only [i64_w])
                    try rfl
                  refine hK.out _ _ ⟨(by rw [ha.out]; exact putSel_upk 8 hb_ rfl rfl rfl), Q_HBr⟩
                refine steps_cons ?_ ?_
                · rintro b a w' ⟨ha, Q_HBr⟩ hb_ hon hoff
                  refine ⟨_, rfl, fun K hK => ?_⟩
                  have e43 : a.tmps[43]? = some (.bool false) := by rw [ha]; exact putSel_on (e := (8, 43, .bool false)) 8 rfl rfl (hon 8 (by kernel_rfl)) rfl
                  replace ha := Aside0.mk ha
                  have HBr := Aside0.mk Q_HBr
                  refine value_ (w1 := w') (v := .bool false) ?cA ?cB ?_ ?_
                  case cA => rfl
                  case cB => rfl
                  · go_simp
                    (try simp only [i64_w])
                    try rfl
                  refine hK.out _ _ ⟨(by rw [ha.out]; exact putSel_upk 9 hb_ rfl rfl rfl), Q_HBr⟩
                refine steps_cons ?_ ?_
                · rintro b a w' ⟨ha, Q_HBr⟩ hb_ hon hoff
                  refine ⟨_, rfl, fun K hK => ?_⟩
                  have e4 : a.tmps[4]? = some (.int .i64 ((i : Nat) : Int)) := by rw [ha]; exact (putSel_off rfl).trans rfl
                  have e44 : a.tmps[44]? = some (.bool false) := by rw [ha]; exact putSel_on (e := (9, 44, .bool false)) 9 rfl rfl (hon 9 (by kernel_rfl)) rfl
                  replace ha := Aside0.mk ha
                  have HBr := Aside0.mk Q_HBr
                  refine value_ (w1 := w') (v := .int .i64 ((i : Nat) : Int)) (wanted_on rfl rfl rfl (e44.trans (by first | rfl | (simp [*]; done)))) rfl ?_ ?_
                  · go_simp
                    (try simp only [i64_w])
                    try rfl
                  refine hK.out _ _ ⟨(by rw [ha.out]; exact putSel_upk 10 hb_ rfl rfl rfl), Q_HBr⟩
                refine steps_cons ?_ ?_
                · rintro b a w' ⟨ha, Q_HBr⟩ hb_ hon hoff
                  refine ⟨_, rfl, fun K hK => ?_⟩
                  have e45 : a.tmps[45]? = some (.int .i64 ((i : Nat) : Int)) := by rw [ha]; exact putSel_on (e := (10, 45, .int .i64 ((i : Nat) : Int))) 10 rfl rfl (hon 10 (by kernel_rfl)) rfl
                  have e44 : a.tmps[44]? = some (.bool false) := by rw [ha]; exact putSel_on (e := (9, 44, .bool false)) 9 rfl rfl (hon 9 (by kernel_rfl)) rfl
                  replace ha := Aside0.mk ha
                  have HBr := Aside0.mk Q_HBr
                  refine goes_ Tryd.func17 (by kernel_rfl) rfl #[.int .i64 ((i : Nat) : Int)] (wanted_on rfl rfl rfl (e44.trans (by first | rfl | (simp [*]; done)))) rfl rfl (by first | (simp only [List.map_toArray, List.map_cons, List.map_nil, Act.eval, Array.getD_eq_getD_getElem?, Option.getD_some, e45, e44]; done) | (simp only [List.map_toArray, List.map_cons, List.map_nil, Act.eval, Array.getD_eq_getD_getElem?, Option.getD_some, e45, e44]; rfl)) ?_
                  refine (of_yes' s i _ HI1X.out rfl _ (HWS.out.below HBr.out)).mono ?_
                  rintro e w1 ⟨rfl, rfl⟩
                  refine ⟨_, rfl, ?_⟩
                  refine hK.out _ _ ⟨(by rw [ha.out]; exact putSel_upk 11 hb_ rfl rfl rfl), below_step HBr.out (Below.refl _ _)⟩
                refine steps_cons ?_ ?_
                · rintro b a w' ⟨ha, Q_HBr⟩ hb_ hon hoff
                  refine ⟨_, rfl, fun K hK => ?_⟩
                  have e6 : a.tmps[6]? = some (.int .i64 ((i : Nat) : Int)) := by rw [ha]; exact (putSel_off rfl).trans rfl
                  have e44 : a.tmps[44]? = some (.bool false) := by rw [ha]; exact putSel_on (e := (9, 44, .bool false)) 9 rfl rfl (hon 9 (by kernel_rfl)) rfl
                  replace ha := Aside0.mk ha
                  have HBr := Aside0.mk Q_HBr
                  refine value_ (w1 := w') (v := .int .i64 ((i : Nat) : Int)) (wanted_on rfl rfl rfl (e44.trans (by first | rfl | (simp [*]; done)))) rfl ?_ ?_
                  · go_simp
                    (try simp only [i64_w])
                    try rfl
                  refine hK.out _ _ ⟨(by rw [ha.out]; exact putSel_upk 12 hb_ rfl rfl rfl), Q_HBr⟩
                refine steps_cons ?_ ?_
                · rintro b a w' ⟨ha, Q_HBr⟩ hb_ hon hoff
                  refine ⟨_, rfl, fun K hK => ?_⟩
                  have e3 : a.tmps[3]? = some (.pointer (some ⟨g1, 0, none⟩)) := by rw [ha]; exact (putSel_off rfl).trans rfl
                  have e47 : a.tmps[47]? = some (.int .i64 ((i : Nat) : Int)) := by rw [ha]; exact putSel_on (e := (12, 47, .int .i64 ((i : Nat) : Int))) 12 rfl rfl (hon 12 (by kernel_rfl)) rfl
                  have e44 : a.tmps[44]? = some (.bool false) := by rw [ha]; exact putSel_on (e := (9, 44, .bool false)) 9 rfl rfl (hon 9 (by kernel_rfl)) rfl
                  replace ha := Aside0.mk ha
                  have HBr := Aside0.mk Q_HBr
                  have z1_ : ((i : Nat) : Int) < 12 := by have := HI12.out; omega
                  have z2_ : (0 : Int) ≤ ((i : Nat) : Int) := Int.natCast_nonneg _
                  refine value_ (w1 := w') (v := .pointer (some ⟨g1, i, none⟩)) (wanted_on rfl rfl rfl (e44.trans (by first | rfl | (simp [*]; done)))) rfl ?_ ?_
                  · go_simp
                    (try simp only [i64_w])
                    try rfl
                  refine hK.out _ _ ⟨(by rw [ha.out]; exact putSel_upk 13 hb_ rfl rfl rfl), Q_HBr⟩
                refine steps_cons ?_ ?_
                · rintro b a w' ⟨ha, Q_HBr⟩ hb_ hon hoff
                  refine ⟨_, rfl, fun K hK => ?_⟩
                  have e48 : a.tmps[48]? = some (.pointer (some ⟨g1, i, none⟩)) := by rw [ha]; exact putSel_on (e := (13, 48, .pointer (some ⟨g1, i, none⟩))) 13 rfl rfl (hon 13 (by kernel_rfl)) rfl
                  have e44 : a.tmps[44]? = some (.bool false) := by rw [ha]; exact putSel_on (e := (9, 44, .bool false)) 9 rfl rfl (hon 9 (by kernel_rfl)) rfl
                  replace ha := Aside0.mk ha
                  have HBr := Aside0.mk Q_HBr
                  have z_ : w'.cell? ⟨g1, i, none⟩ = some (Sent (s i)) := (blk_cell (blk_below HBr.out HGG.out) i).trans HKI.out
                  refine value_ (w1 := w') (v := Sent (s i)) (wanted_on rfl rfl rfl (e44.trans (by first | rfl | (simp [*]; done)))) rfl ?_ ?_
                  · go_simp
                    (try simp only [i64_w])
                    try rfl
                  refine hK.out _ _ ⟨(by rw [ha.out]; exact putSel_upk 14 hb_ rfl rfl rfl), Q_HBr⟩
                refine steps_cons ?_ ?_
                · rintro b a w' ⟨ha, Q_HBr⟩ hb_ hon hoff
                  refine ⟨_, rfl, fun K hK => ?_⟩
                  have e46 : a.tmps[46]? = some (Sent (s i)) := by rw [ha]; exact putSel_on (e := (11, 46, Sent (s i))) 11 rfl rfl (hon 11 (by kernel_rfl)) rfl
                  have e49 : a.tmps[49]? = some (Sent (s i)) := by rw [ha]; exact putSel_on (e := (14, 49, Sent (s i))) 14 rfl rfl (hon 14 (by kernel_rfl)) rfl
                  have e44 : a.tmps[44]? = some (.bool false) := by rw [ha]; exact putSel_on (e := (9, 44, .bool false)) 9 rfl rfl (hon 9 (by kernel_rfl)) rfl
                  replace ha := Aside0.mk ha
                  have HBr := Aside0.mk Q_HBr
                  refine goes_ Tryd.func16 (by kernel_rfl) rfl #[Sent (s i), Sent (s i)] (wanted_on rfl rfl rfl (e44.trans (by first | rfl | (simp [*]; done)))) rfl rfl (by first | (simp only [List.map_toArray, List.map_cons, List.map_nil, Act.eval, Array.getD_eq_getD_getElem?, Option.getD_some, e46, e49, e44]; done) | (simp only [List.map_toArray, List.map_cons, List.map_nil, Act.eval, Array.getD_eq_getD_getElem?, Option.getD_some, e46, e49, e44]; rfl)) ?_
                  refine (is_yes (Ch_nil _ _) (Blk_below HBI.out HBr.out) (Blk_below HBI.out HBr.out) rfl).mono ?_
                  rintro e w1 ⟨rfl, rfl⟩
                  refine ⟨_, rfl, ?_⟩
                  refine hK.out _ _ ⟨(by rw [ha.out]; exact putSel_upk 15 hb_ rfl rfl rfl), below_step HBr.out (Below.refl _ _)⟩
                refine steps_cons ?_ ?_
                · rintro b a w' ⟨ha, Q_HBr⟩ hb_ hon hoff
                  refine ⟨_, rfl, fun K hK => ?_⟩
                  have e4 : a.tmps[4]? = some (.int .i64 ((i : Nat) : Int)) := by rw [ha]; exact (putSel_off rfl).trans rfl
                  have e44 : a.tmps[44]? = some (.bool false) := by rw [ha]; exact putSel_on (e := (9, 44, .bool false)) 9 rfl rfl (hon 9 (by kernel_rfl)) rfl
                  replace ha := Aside0.mk ha
                  have HBr := Aside0.mk Q_HBr
                  refine value_ (w1 := w') (v := .int .i64 ((i : Nat) : Int)) (wanted_on rfl rfl rfl (e44.trans (by first | rfl | (simp [*]; done)))) rfl ?_ ?_
                  · go_simp
                    (try simp only [i64_w])
                    try rfl
                  refine hK.out _ _ ⟨(by rw [ha.out]; exact putSel_upk 16 hb_ rfl rfl rfl), Q_HBr⟩
                refine steps_cons ?_ ?_
                · rintro b a w' ⟨ha, Q_HBr⟩ hb_ hon hoff
                  refine ⟨_, rfl, fun K hK => ?_⟩
                  have e6 : a.tmps[6]? = some (.int .i64 ((i : Nat) : Int)) := by rw [ha]; exact (putSel_off rfl).trans rfl
                  have e44 : a.tmps[44]? = some (.bool false) := by rw [ha]; exact putSel_on (e := (9, 44, .bool false)) 9 rfl rfl (hon 9 (by kernel_rfl)) rfl
                  replace ha := Aside0.mk ha
                  have HBr := Aside0.mk Q_HBr
                  refine value_ (w1 := w') (v := .int .i64 ((i : Nat) : Int)) (wanted_on rfl rfl rfl (e44.trans (by first | rfl | (simp [*]; done)))) rfl ?_ ?_
                  · go_simp
                    (try simp only [i64_w])
                    try rfl
                  refine hK.out _ _ ⟨(by rw [ha.out]; exact putSel_upk 17 hb_ rfl rfl rfl), Q_HBr⟩
                refine steps_cons ?_ ?_
                · rintro b a w' ⟨ha, Q_HBr⟩ hb_ hon hoff
                  refine ⟨_, rfl, fun K hK => ?_⟩
                  have e51 : a.tmps[51]? = some (.int .i64 ((i : Nat) : Int)) := by rw [ha]; exact putSel_on (e := (16, 51, .int .i64 ((i : Nat) : Int))) 16 rfl rfl (hon 16 (by kernel_rfl)) rfl
                  have e52 : a.tmps[52]? = some (.int .i64 ((i : Nat) : Int)) := by rw [ha]; exact putSel_on (e := (17, 52, .int .i64 ((i : Nat) : Int))) 17 rfl rfl (hon 17 (by kernel_rfl)) rfl
                  have e44 : a.tmps[44]? = some (.bool false) := by rw [ha]; exact putSel_on (e := (9, 44, .bool false)) 9 rfl rfl (hon 9 (by kernel_rfl)) rfl
                  replace ha := Aside0.mk ha
                  have HBr := Aside0.mk Q_HBr
                  refine value_ (w1 := w') (v := .bool true) (wanted_on rfl rfl rfl (e44.trans (by first | rfl | (simp [*]; done)))) rfl ?_ ?_
                  · go_simp
                    (try simp only [i64_w])
                    try rfl
                  refine hK.out _ _ ⟨(by rw [ha.out]; exact putSel_upk 18 hb_ rfl rfl rfl), Q_HBr⟩
                refine steps_cons ?_ ?_
                · rintro b a w' ⟨ha, Q_HBr⟩ hb_ hon hoff
                  refine ⟨_, rfl, fun K hK => ?_⟩
                  have e50 : a.tmps[50]? = some (.bool true) := by rw [ha]; exact putSel_on (e := (15, 50, .bool true)) 15 rfl rfl (hon 15 (by kernel_rfl)) rfl
                  have e53 : a.tmps[53]? = some (.bool true) := by rw [ha]; exact putSel_on (e := (18, 53, .bool true)) 18 rfl rfl (hon 18 (by kernel_rfl)) rfl
                  have e44 : a.tmps[44]? = some (.bool false) := by rw [ha]; exact putSel_on (e := (9, 44, .bool false)) 9 rfl rfl (hon 9 (by kernel_rfl)) rfl
                  replace ha := Aside0.mk ha
                  have HBr := Aside0.mk Q_HBr
                  refine value_ (w1 := w') (v := .bool false) (wanted_on rfl rfl rfl (e44.trans (by first | rfl | (simp [*]; done)))) rfl ?_ ?_
                  · go_simp
                    (try simp only [i64_w])
                    try rfl
                  refine hK.out _ _ ⟨(by rw [ha.out]; exact putSel_upk 19 hb_ rfl rfl rfl), Q_HBr⟩
                refine steps_cons ?_ ?_
                · rintro b a w' ⟨ha, Q_HBr⟩ hb_ hon hoff
                  refine ⟨_, rfl, fun K hK => ?_⟩
                  have e44 : a.tmps[44]? = some (.bool false) := by rw [ha]; exact putSel_on (e := (9, 44, .bool false)) 9 rfl rfl (hon 9 (by kernel_rfl)) rfl
                  have e54 : a.tmps[54]? = some (.bool false) := by rw [ha]; exact putSel_on (e := (19, 54, .bool false)) 19 rfl rfl (hon 19 (by kernel_rfl)) rfl
                  replace ha := Aside0.mk ha
                  have HBr := Aside0.mk Q_HBr
                  refine value_ (w1 := w') (v := .bool false) ?cA ?cB ?_ ?_
                  case cA => rfl
                  case cB => rfl
                  · go_simp
                    (try simp only [i64_w])
                    try rfl
                  refine hK.out _ _ ⟨(by rw [ha.out]; exact putSel_upk 20 hb_ rfl rfl rfl), Q_HBr⟩
                exact steps_nil
              rintro b a w' hall ⟨ha, Q_HBr⟩
              clear HBr
              have hb0_ := hall 0 (by kernel_rfl)
              have hb1_ := hall 1 (by kernel_rfl)
              have hb2_ := hall 2 (by kernel_rfl)
              have hb3_ := hall 3 (by kernel_rfl)
              have hb4_ := hall 4 (by kernel_rfl)
              have hb5_ := hall 5 (by kernel_rfl)
              have hb6_ := hall 6 (by kernel_rfl)
              have hb7_ := hall 7 (by kernel_rfl)
              have hb8_ := hall 8 (by kernel_rfl)
              have hb9_ := hall 9 (by kernel_rfl)
              have hb10_ := hall 10 (by kernel_rfl)
              have hb11_ := hall 11 (by kernel_rfl)
              have hb12_ := hall 12 (by kernel_rfl)
              have hb13_ := hall 13 (by kernel_rfl)
              have hb14_ := hall 14 (by kernel_rfl)
              have hb15_ := hall 15 (by kernel_rfl)
              have hb16_ := hall 16 (by kernel_rfl)
              have hb17_ := hall 17 (by kernel_rfl)
              have hb18_ := hall 18 (by kernel_rfl)
              have hb19_ := hall 19 (by kernel_rfl)
              have hb20_ := hall 20 (by kernel_rfl)
              subst ha
              simp only [putSel, hb0_, hb1_, hb2_, hb3_, hb4_, hb5_, hb6_, hb7_, hb8_, hb9_, hb10_, hb11_, hb12_, hb13_, hb14_, hb15_, hb16_, hb17_, hb18_, hb19_, hb20_, if_true, Act.put, List.setIfInBounds_toArray, List.set_cons_zero, List.set_cons_succ]
              have HBr := Aside0.mk Q_HBr
              clear Q_HBr
              clear hall hb0_ hb1_ hb2_ hb3_ hb4_ hb5_ hb6_ hb7_ hb8_ hb9_ hb10_ hb11_ hb12_ hb13_ hb14_ hb15_ hb16_ hb17_ hb18_ hb19_ hb20_
              go_wp2
              go_roundw
              case rel => exact ⟨i + 1, by omega, by omega, by go_num, HBr.out⟩
              case measure => simp [intOf]; omega
            · have hne := HWS.out.ne' i k hk1 (by omega) hi1 (by omega) heq
              have hni : ¬ ((i : Nat) : Int) = ((k : Nat) : Int) := by omega
              have HNE := Aside0.mk hne
              clear hne
              have HNI := Aside0.mk hni
              clear hni
              go_wp2
              refine start_ (n := 21) (S := fun w' => True) (ds := []) #[false, false, false, false, false, false, false, false, false, false, false, false, false, false, false, false, false, false, false, false, false] (by kernel_rfl) rfl rfl trivial (fun hHeld => ?_)
              refine with_tabW wnamesN.tab13 wnamesN.bits13 (fun HT_ HW_ => ?_)
              have HBr := Aside0.mk (below_drew1 HBQ.out)
              refine inv_at [0, 1, 2, 3, 4, 5, 6, 7, 8, 9, 10, 11, 12, 13, 14, 15, 16, 17, 18, 19, 20] (fun a0_ b a w' => a = putSel a0_ b [(0, 35, .iface T x), (1, 36, .int .i64 ((k : Nat) : Int)), (2, 37, .pointer (some ⟨g1, k, none⟩)), (3, 38, Sent (s k)), (4, 39, .bool false), (5, 40, .int .i64 ((i : Nat) : Int)), (6, 41, .int .i64 ((k : Nat) : Int)), (7, 42, .bool false), (8, 43, .bool false), (9, 44, .bool false), (10, 45, .int .i64 ((i : Nat) : Int)), (11, 46, Sent (s i)), (12, 47, .int .i64 ((k : Nat) : Int)), (13, 48, .pointer (some ⟨g1, k, none⟩)), (14, 49, Sent (s k)), (15, 50, .bool false), (16, 51, .int .i64 ((i : Nat) : Int)), (17, 52, .int .i64 ((k : Nat) : Int)), (18, 53, .bool false), (19, 54, .bool false), (20, 55, .bool false)] ∧ (Below w3.heap.size w3 w')) HT_.out HW_.out (by kernel_rfl) (by kernel_rfl) ?_ ?_ ?_
              · exact ⟨by simp only [putSel, Bool.false_eq_true, if_false], HBr.out⟩
              · skip
                clear HBr
                refine steps_cons ?_ ?_
                · rintro b a w' ⟨ha, Q_HBr⟩ hb_ hon hoff
                  refine ⟨_, rfl, fun K hK => ?_⟩
                  have e5 : a.tmps[5]? = some (.iface T x) := by rw [ha]; exact (putSel_off rfl).trans rfl
                  replace ha := Aside0.mk ha
                  have HBr := Aside0.mk Q_HBr
                  refine value_ (w1 := w') (v := .iface T x) ?cA ?cB ?_ ?_
                  case cA => rfl
                  case cB => rfl
                  · go_simp
                    (try simp only [i64_w])
                    try rfl
                  refine hK.out _ _ ⟨(by rw [ha.out]; exact putSel_upk 0 hb_ rfl rfl rfl), Q_HBr⟩
                refine steps_cons ?_ ?_
                · rintro b a w' ⟨ha, Q_HBr⟩ hb_ hon hoff
                  refine ⟨_, rfl, fun K hK => ?_⟩
                  have e6 : a.tmps[6]? = some (.int .i64 ((k : Nat) : Int)) := by rw [ha]; exact (putSel_off rfl).trans rfl
                  replace ha := Aside0.mk ha
                  have HBr := Aside0.mk Q_HBr
                  refine value_ (w1 := w') (v := .int .i64 ((k : Nat) : Int)) ?cA ?cB ?_ ?_
                  case cA => rfl
                  case cB => rfl
                  · go_simp
                    (try simp only [i64_w])
                    try rfl
                  refine hK.out _ _ ⟨(by rw [ha.out]; exact putSel_upk 1 hb_ rfl rfl rfl), Q_HBr⟩
                refine steps_cons ?_ ?_
                · rintro b a w' ⟨ha, Q_HBr⟩ hb_ hon hoff
                  refine ⟨_, rfl, fun K hK => ?_⟩
                  have e3 : a.tmps[3]? = some (.pointer (some ⟨g1, 0, none⟩)) := by rw [ha]; exact (putSel_off rfl).trans rfl
                  have e36 : a.tmps[36]? = some (.int .i64 ((k : Nat) : Int)) := by rw [ha]; exact putSel_on (e := (1, 36, .int .i64 ((k : Nat) : Int))) 1 rfl rfl (hon 1 (by kernel_rfl)) rfl
                  replace ha := Aside0.mk ha
                  have HBr := Aside0.mk Q_HBr
                  have z1_ : ((k : Nat) : Int) < 12 := by have := HK12.out; omega
                  have z2_ : (0 : Int) ≤ ((k : Nat) : Int) := Int.natCast_nonneg _
                  refine value_ (w1 := w') (v := .pointer (some ⟨g1, k, none⟩)) ?cA ?cB ?_ ?_
                  case cA => rfl
                  case cB => rfl
                  · go_simp
                    (try simp only [i64_w])
                    try rfl
                  refine hK.out _ _ ⟨(by rw [ha.out]; exact putSel_upk 2 hb_ rfl rfl rfl), Q_HBr⟩
                refine steps_cons ?_ ?_
                · rintro b a w' ⟨ha, Q_HBr⟩ hb_ hon hoff
                  refine ⟨_, rfl, fun K hK => ?_⟩
                  have e37 : a.tmps[37]? = some (.pointer (some ⟨g1, k, none⟩)) := by rw [ha]; exact putSel_on (e := (2, 37, .pointer (some ⟨g1, k, none⟩))) 2 rfl rfl (hon 2 (by kernel_rfl)) rfl
                  replace ha := Aside0.mk ha
                  have HBr := Aside0.mk Q_HBr
                  have z_ : w'.cell? ⟨g1, k, none⟩ = some (Sent (s k)) := (blk_cell (blk_below HBr.out HGG.out) k).trans HKK.out
                  refine value_ (w1 := w') (v := Sent (s k)) ?cA ?cB ?_ ?_
                  case cA => rfl
                  case cB => rfl
                  · go_simp
                    (try simp only [i64_w])
                    try rfl
                  refine hK.out _ _ ⟨(by rw [ha.out]; exact putSel_upk 3 hb_ rfl rfl rfl), Q_HBr⟩
                refine steps_cons ?_ ?_
                · rintro b a w' ⟨ha, Q_HBr⟩ hb_ hon hoff
                  refine ⟨_, rfl, fun K hK => ?_⟩
                  have e35 : a.tmps[35]? = some (.iface T x) := by rw [ha]; exact putSel_on (e := (0, 35, .iface T x)) 0 rfl rfl (hon 0 (by kernel_rfl)) rfl
                  have e38 : a.tmps[38]? = some (Sent (s k)) := by rw [ha]; exact putSel_on (e := (3, 38, Sent (s k))) 3 rfl rfl (hon 3 (by kernel_rfl)) rfl
                  replace ha := Aside0.mk ha
                  have HBr := Aside0.mk Q_HBr
                  refine goes_ Tryd.func16 (by kernel_rfl) rfl #[.iface T x, Sent (s k)] (by rfl) rfl rfl (by first | (simp only [List.map_toArray, List.map_cons, List.map_nil, Act.eval, Array.getD_eq_getD_getElem?, Option.getD_some, e35, e38]; done) | (simp only [List.map_toArray, List.map_cons, List.map_nil, Act.eval, Array.getD_eq_getD_getElem?, Option.getD_some, e35, e38]; rfl)) ?_
                  refine (is_no (Ch_below HC.out HBr.out) (Blk_below HBK.out HBr.out) (Blk_below HBI.out HBr.out) HNE.out).mono ?_
                  rintro e w1 ⟨rfl, rfl⟩
                  refine ⟨_, rfl, ?_⟩
                  refine hK.out _ _ ⟨(by rw [ha.out]; exact putSel_upk 4 hb_ rfl rfl rfl), below_step HBr.out (Below.refl _ _)⟩
                refine steps_cons ?_ ?_
                · rintro b a w' ⟨ha, Q_HBr⟩ hb_ hon hoff
                  refine ⟨_, rfl, fun K hK => ?_⟩
                  have e4 : a.tmps[4]? = some (.int .i64 ((i : Nat) : Int)) := by rw [ha]; exact (putSel_off rfl).trans rfl
                  replace ha := Aside0.mk ha
                  have HBr := Aside0.mk Q_HBr
                  refine value_ (w1 := w') (v := .int .i64 ((i : Nat) : Int)) ?cA ?cB ?_ ?_
                  case cA => rfl
                  case cB => rfl
                  · go_simp
                    (try simp only [i64_w])
                    try rfl
                  refine hK.out _ _ ⟨(by rw [ha.out]; exact putSel_upk 5 hb_ rfl rfl rfl), Q_HBr⟩
                refine steps_cons ?_ ?_
                · rintro b a w' ⟨ha, Q_HBr⟩ hb_ hon hoff
                  refine ⟨_, rfl, fun K hK => ?_⟩
                  have e6 : a.tmps[6]? = some (.int .i64 ((k : Nat) : Int)) := by rw [ha]; exact (putSel_off rfl).trans rfl
                  replace ha := Aside0.mk ha
                  have HBr := Aside0.mk Q_HBr
                  refine value_ (w1 := w') (v := .int .i64 ((k : Nat) : Int)) ?cA ?cB ?_ ?_
                  case cA => rfl
                  case cB => rfl
                  · go_simp
                    (try simp only [i64_w])
                    try rfl
                  refine hK.out _ _ ⟨(by rw [ha.out]; exact putSel_upk 6 hb_ rfl rfl rfl), Q_HBr⟩
                refine steps_cons ?_ ?_
                · rintro b a w' ⟨ha, Q_HBr⟩ hb_ hon hoff
                  refine ⟨_, rfl, fun K hK => ?_⟩
                  have e40 : a.tmps[40]? = some (.int .i64 ((i : Nat) : Int)) := by rw [ha]; exact putSel_on (e := (5, 40, .int .i64 ((i : Nat) : Int))) 5 rfl rfl (hon 5 (by kernel_rfl)) rfl
                  have e41 : a.tmps[41]? = some (.int .i64 ((k : Nat) : Int)) := by rw [ha]; exact putSel_on (e := (6, 41, .int .i64 ((k : Nat) : Int))) 6 rfl rfl (hon 6 (by kernel_rfl)) rfl
                  replace ha := Aside0.mk ha
                  have HBr := Aside0.mk Q_HBr
                  have z1_ : ¬ ((i : Nat) : Int) = ((k : Nat) : Int) := HNI.out
                  refine value_ (w1 := w') (v := .bool false) ?cA ?cB ?_ ?_
                  case cA => rfl
                  case cB => rfl
                  · go_simp
                    (try simp only [i64_w])
                    try rfl
                  refine hK.out _ _ ⟨(by rw [ha.out]; exact putSel_upk 7 hb_ rfl rfl rfl), Q_HBr⟩
                refine steps_cons ?_ ?_
                · rintro b a w' ⟨ha, Q_HBr⟩ hb_ hon hoff
                  refine ⟨_, rfl, fun K hK => ?_⟩
                  have e39 : a.tmps[39]? = some (.bool false) := by rw [ha]; exact putSel_on (e := (4, 39, .bool false)) 4 rfl rfl (hon 4 (by kernel_rfl)) rfl
                  have e42 : a.tmps[42]? = some (.bool false) := by rw [ha]; exact putSel_on (e := (7, 42, .bool false)) 7 rfl rfl (hon 7 (by kernel_rfl)) rfl
                  replace ha := Aside0.mk ha
                  have HBr := Aside0.mk Q_HBr
                  refine value_ (w1 := w') (v := .bool false) ?cA ?cB ?_ ?_
                  case cA => rfl
                  case cB => rfl
                  · go_simp
                    (try simp only [i64_w])
                    try rfl
                  refine hK.out _ _ ⟨(by rw [ha.out]; exact putSel_upk 8 hb_ rfl rfl rfl), Q_HBr⟩
                refine steps_cons ?_ ?_
                · rintro b a w' ⟨ha, Q_HBr⟩ hb_ hon hoff
                  refine ⟨_, rfl, fun K hK => ?_⟩
                  have e43 : a.tmps[43]? = some (.bool false) := by rw [ha]; exact putSel_on (e := (8, 43, .bool false)) 8 rfl rfl (hon 8 (by kernel_rfl)) rfl
                  replace ha := Aside0.mk ha
                  have HBr := Aside0.mk Q_HBr
                  refine value_ (w1 := w') (v := .bool false) ?cA ?cB ?_ ?_
                  case cA => rfl
                  case cB => rfl
                  · go_simp
                    (try simp only [i64_w])
                    try rfl
                  refine hK.out _ _ ⟨(by rw [ha.out]; exact putSel_upk 9 hb_ rfl rfl rfl), Q_HBr⟩
                refine steps_cons ?_ ?_
                · rintro b a w' ⟨ha, Q_HBr⟩ hb_ hon hoff
                  refine ⟨_, rfl, fun K hK => ?_⟩
                  have e4 : a.tmps[4]? = some (.int .i64 ((i : Nat) : Int)) := by rw [ha]; exact (putSel_off rfl).trans rfl
                  have e44 : a.tmps[44]? = some (.bool false) := by rw [ha]; exact putSel_on (e := (9, 44, .bool false)) 9 rfl rfl (hon 9 (by kernel_rfl)) rfl
                  replace ha := Aside0.mk ha
                  have HBr := Aside0.mk Q_HBr
                  refine value_ (w1 := w') (v := .int .i64 ((i : Nat) : Int)) (wanted_on rfl rfl rfl (e44.trans (by first | rfl | (simp [*]; done)))) rfl ?_ ?_
                  · go_simp
                    (try simp only [i64_w])
                    try rfl
                  refine hK.out _ _ ⟨(by rw [ha.out]; exact putSel_upk 10 hb_ rfl rfl rfl), Q_HBr⟩
                refine steps_cons ?_ ?_
                · rintro b a w' ⟨ha, Q_HBr⟩ hb_ hon hoff
                  refine ⟨_, rfl, fun K hK => ?_⟩
                  have e45 : a.tmps[45]? = some (.int .i64 ((i : Nat) : Int)) := by rw [ha]; exact putSel_on (e := (10, 45, .int .i64 ((i : Nat) : Int))) 10 rfl rfl (hon 10 (by kernel_rfl)) rfl
                  have e44 : a.tmps[44]? = some (.bool false) := by rw [ha]; exact putSel_on (e := (9, 44, .bool false)) 9 rfl rfl (hon 9 (by kernel_rfl)) rfl
                  replace ha := Aside0.mk ha
                  have HBr := Aside0.mk Q_HBr
                  refine goes_ Tryd.func17 (by kernel_rfl) rfl #[.int .i64 ((i : Nat) : Int)] (wanted_on rfl rfl rfl (e44.trans (by first | rfl | (simp [*]; done)))) rfl rfl (by first | (simp only [List.map_toArray, List.map_cons, List.map_nil, Act.eval, Array.getD_eq_getD_getElem?, Option.getD_some, e45, e44]; done) | (simp only [List.map_toArray, List.map_cons, List.map_nil, Act.eval, Array.getD_eq_getD_getElem?, Option.getD_some, e45, e44]; rfl)) ?_
                  refine (of_yes' s i _ HI1X.out rfl _ (HWS.out.below HBr.out)).mono ?_
                  rintro e w1 ⟨rfl, rfl⟩
                  refine ⟨_, rfl, ?_⟩
                  refine hK.out _ _ ⟨(by rw [ha.out]; exact putSel_upk 11 hb_ rfl rfl rfl), below_step HBr.out (Below.refl _ _)⟩
                refine steps_cons ?_ ?_
                · rintro b a w' ⟨ha, Q_HBr⟩ hb_ hon hoff
                  refine ⟨_, rfl, fun K hK => ?_⟩
                  have e6 : a.tmps[6]? = some (.int .i64 ((k : Nat) : Int)) := by rw [ha]; exact (putSel_off rfl).trans rfl
                  have e44 : a.tmps[44]? = some (.bool false) := by rw [ha]; exact putSel_on (e := (9, 44, .bool false)) 9 rfl rfl (hon 9 (by kernel_rfl)) rfl
                  replace ha := Aside0.mk ha
                  have HBr := Aside0.mk Q_HBr
                  refine value_ (w1 := w') (v := .int .i64 ((k : Nat) : Int)) (wanted_on rfl rfl rfl (e44.trans (by first | rfl | (simp [*]; done)))) rfl ?_ ?_
                  · go_simp
                    (try simp only [i64_w])
                    try rfl
                  refine hK.out _ _ ⟨(by rw [ha.out]; exact putSel_upk 12 hb_ rfl rfl rfl), Q_HBr⟩
                refine steps_cons ?_ ?_
                · rintro b a w' ⟨ha, Q_HBr⟩ hb_ hon hoff
                  refine ⟨_, rfl, fun K hK => ?_⟩
                  have e3 : a.tmps[3]? = some (.pointer (some ⟨g1, 0, none⟩)) := by rw [ha]; exact (putSel_off rfl).trans rfl
                  have e47 : a.tmps[47]? = some (.int .i64 ((k : Nat) : Int)) := by rw [ha]; exact putSel_on (e := (12, 47, .int .i64 ((k : Nat) : Int))) 12 rfl rfl (hon 12 (by kernel_rfl)) rfl
                  have e44 : a.tmps[44]? = some (.bool false) := by rw [ha]; exact putSel_on (e := (9, 44, .bool false)) 9 rfl rfl (hon 9 (by kernel_rfl)) rfl
                  replace ha := Aside0.mk ha
                  have HBr := Aside0.mk Q_HBr
                  have z1_ : ((k : Nat) : Int) < 12 := by have := HK12.out; omega
                  have z2_ : (0 : Int) ≤ ((k : Nat) : Int) := Int.natCast_nonneg _
                  refine value_ (w1 := w') (v := .pointer (some ⟨g1, k, none⟩)) (wanted_on rfl rfl rfl (e44.trans (by first | rfl | (simp [*]; done)))) rfl ?_ ?_
                  · go_simp
                    (try simp only [i64_w])
                    try rfl
                  refine hK.out _ _ ⟨(by rw [ha.out]; exact putSel_upk 13 hb_ rfl rfl rfl), Q_HBr⟩
                refine steps_cons ?_ ?_
                · rintro b a w' ⟨ha, Q_HBr⟩ hb_ hon hoff
                  refine ⟨_, rfl, fun K hK => ?_⟩
                  have e48 : a.tmps[48]? = some (.pointer (some ⟨g1, k, none⟩)) := by rw [ha]; exact putSel_on (e := (13, 48, .pointer (some ⟨g1, k, none⟩))) 13 rfl rfl (hon 13 (by kernel_rfl)) rfl
                  have e44 : a.tmps[44]? = some (.bool false) := by rw [ha]; exact putSel_on (e := (9, 44, .bool false)) 9 rfl rfl (hon 9 (by kernel_rfl)) rfl
                  replace ha := Aside0.mk ha
                  have HBr := Aside0.mk Q_HBr
                  have z_ : w'.cell? ⟨g1, k, none⟩ = some (Sent (s k)) := (blk_cell (blk_below HBr.out HGG.out) k).trans HKK.out
                  refine value_ (w1 := w') (v := Sent (s k)) (wanted_on rfl rfl rfl (e44.trans (by first | rfl | (simp [*]; done)))) rfl ?_ ?_
                  · go_simp
                    (try simp only [i64_w])
                    try rfl
                  refine hK.out _ _ ⟨(by rw [ha.out]; exact putSel_upk 14 hb_ rfl rfl rfl), Q_HBr⟩
                refine steps_cons ?_ ?_
                · rintro b a w' ⟨ha, Q_HBr⟩ hb_ hon hoff
                  refine ⟨_, rfl, fun K hK => ?_⟩
                  have e46 : a.tmps[46]? = some (Sent (s i)) := by rw [ha]; exact putSel_on (e := (11, 46, Sent (s i))) 11 rfl rfl (hon 11 (by kernel_rfl)) rfl
                  have e49 : a.tmps[49]? = some (Sent (s k)) := by rw [ha]; exact putSel_on (e := (14, 49, Sent (s k))) 14 rfl rfl (hon 14 (by kernel_rfl)) rfl
                  have e44 : a.tmps[44]? = some (.bool false) := by rw [ha]; exact putSel_on (e := (9, 44, .bool false)) 9 rfl rfl (hon 9 (by kernel_rfl)) rfl
                  replace ha := Aside0.mk ha
                  have HBr := Aside0.mk Q_HBr
                  refine goes_ Tryd.func16 (by kernel_rfl) rfl #[Sent (s i), Sent (s k)] (wanted_on rfl rfl rfl (e44.trans (by first | rfl | (simp [*]; done)))) rfl rfl (by first | (simp only [List.map_toArray, List.map_cons, List.map_nil, Act.eval, Array.getD_eq_getD_getElem?, Option.getD_some, e46, e49, e44]; done) | (simp only [List.map_toArray, List.map_cons, List.map_nil, Act.eval, Array.getD_eq_getD_getElem?, Option.getD_some, e46, e49, e44]; rfl)) ?_
                  refine (is_no (Ch_nil _ _) (Blk_below HBK.out HBr.out) (Blk_below HBI.out HBr.out) HNE.out).mono ?_
                  rintro e w1 ⟨rfl, rfl⟩
                  refine ⟨_, rfl, ?_⟩
                  refine hK.out _ _ ⟨(by rw [ha.out]; exact putSel_upk 15 hb_ rfl rfl rfl), below_step HBr.out (Below.refl _ _)⟩
                refine steps_cons ?_ ?_
                · rintro b a w' ⟨ha, Q_HBr⟩ hb_ hon hoff
                  refine ⟨_, rfl, fun K hK => ?_⟩
                  have e4 : a.tmps[4]? = some (.int .i64 ((i : Nat) : Int)) := by rw [ha]; exact (putSel_off rfl).trans rfl
                  have e44 : a.tmps[44]? = some (.bool false) := by rw [ha]; exact putSel_on (e := (9, 44, .bool false)) 9 rfl rfl (hon 9 (by kernel_rfl)) rfl
                  replace ha := Aside0.mk ha
                  have HBr := Aside0.mk Q_HBr
                  refine value_ (w1 := w') (v := .int .i64 ((i : Nat) : Int)) (wanted_on rfl rfl rfl (e44.trans (by first | rfl | (simp [*]; done)))) rfl ?_ ?_
                  · go_simp
                    (try simp only [i64_w])
                    try rfl
                  refine hK.out _ _ ⟨(by rw [ha.out]; exact putSel_upk 16 hb_ rfl rfl rfl), Q_HBr⟩
                refine steps_cons ?_ ?_
                · rintro b a w' ⟨ha, Q_HBr⟩ hb_ hon hoff
                  refine ⟨_, rfl, fun K hK => ?_⟩
                  have e6 : a.tmps[6]? = some (.int .i64 ((k : Nat) : Int)) := by rw [ha]; exact (putSel_off rfl).trans rfl
                  have e44 : a.tmps[44]? = some (.bool false) := by rw [ha]; exact putSel_on (e := (9, 44, .bool false)) 9 rfl rfl (hon 9 (by kernel_rfl)) rfl
                  replace ha := Aside0.mk ha
                  have HBr := Aside0.mk Q_HBr
                  refine value_ (w1 := w') (v := .int .i64 ((k : Nat) : Int)) (wanted_on rfl rfl rfl (e44.trans (by first | rfl | (simp [*]; done)))) rfl ?_ ?_
                  · go_simp
                    (try simp only [i64_w])
                    try rfl
                  refine hK.out _ _ ⟨(by rw [ha.out]; exact putSel_upk 17 hb_ rfl rfl rfl), Q_HBr⟩
                refine steps_cons ?_ ?_
                · rintro b a w' ⟨ha, Q_HBr⟩ hb_ hon hoff
                  refine ⟨_, rfl, fun K hK => ?_⟩
                  have e51 : a.tmps[51]? = some (.int .i64 ((i : Nat) : Int)) := by rw [ha]; exact putSel_on (e := (16, 51, .int .i64 ((i : Nat) : Int))) 16 rfl rfl (hon 16 (by kernel_rfl)) rfl
                  have e52 : a.tmps[52]? = some (.int .i64 ((k : Nat) : Int)) := by rw [ha]; exact putSel_on (e := (17, 52, .int .i64 ((k : Nat) : Int))) 17 rfl rfl (hon 17 (by kernel_rfl)) rfl
                  have e44 : a.tmps[44]? = some (.bool false) := by rw [ha]; exact putSel_on (e := (9, 44, .bool false)) 9 rfl rfl (hon 9 (by kernel_rfl)) rfl
                  replace ha := Aside0.mk ha
                  have HBr := Aside0.mk Q_HBr
                  have z1_ : ¬ ((i : Nat) : Int) = ((k : Nat) : Int) := HNI.out
                  refine value_ (w1 := w') (v := .bool false) (wanted_on rfl rfl rfl (e44.trans (by first | rfl | (simp [*]; done)))) rfl ?_ ?_
                  · go_simp
                    (try simp only [i64_w])
                    try rfl
                  refine hK.out _ _ ⟨(by rw [ha.out]; exact putSel_upk 18 hb_ rfl rfl rfl), Q_HBr⟩
                refine steps_cons ?_ ?_
                · rintro b a w' ⟨ha, Q_HBr⟩ hb_ hon hoff
                  refine ⟨_, rfl, fun K hK => ?_⟩
                  have e50 : a.tmps[50]? = some (.bool false) := by rw [ha]; exact putSel_on (e := (15, 50, .bool false)) 15 rfl rfl (hon 15 (by kernel_rfl)) rfl
                  have e53 : a.tmps[53]? = some (.bool false) := by rw [ha]; exact putSel_on (e := (18, 53, .bool false)) 18 rfl rfl (hon 18 (by kernel_rfl)) rfl
                  have e44 : a.tmps[44]? = some (.bool false) := by rw [ha]; exact putSel_on (e := (9, 44, .bool false)) 9 rfl rfl (hon 9 (by kernel_rfl)) rfl
                  replace ha := Aside0.mk ha
                  have HBr := Aside0.mk Q_HBr
                  refine value_ (w1 := w') (v := .bool false) (wanted_on rfl rfl rfl (e44.trans (by first | rfl | (simp [*]; done)))) rfl ?_ ?_
                  · go_simp
                    (try simp only [i64_w])
                    try rfl
                  refine hK.out _ _ ⟨(by rw [ha.out]; exact putSel_upk 19 hb_ rfl rfl rfl), Q_HBr⟩
                refine steps_cons ?_ ?_
                · rintro b a w' ⟨ha, Q_HBr⟩ hb_ hon hoff
                  refine ⟨_, rfl, fun K hK => ?_⟩
                  have e44 : a.tmps[44]? = some (.bool false) := by rw [ha]; exact putSel_on (e := (9, 44, .bool false)) 9 rfl rfl (hon 9 (by kernel_rfl)) rfl
                  have e54 : a.tmps[54]? = some (.bool false) := by rw [ha]; exact putSel_on (e := (19, 54, .bool false)) 19 rfl rfl (hon 19 (by kernel_rfl)) rfl
                  replace ha := Aside0.mk ha
                  have HBr := Aside0.mk Q_HBr
                  refine value_ (w1 := w') (v := .bool false) ?cA ?cB ?_ ?_
                  case cA => rfl
                  case cB => rfl
                  · go_simp
                    (try simp only [i64_w])
                    try rfl
                  refine hK.out _ _ ⟨(by rw [ha.out]; exact putSel_upk 20 hb_ rfl rfl rfl), Q_HBr⟩
                exact steps_nil
              rintro b a w' hall ⟨ha, Q_HBr⟩
              clear HBr
              have hb0_ := hall 0 (by kernel_rfl)
              have hb1_ := hall 1 (by kernel_rfl)
              have hb2_ := hall 2 (by kernel_rfl)
              have hb3_ := hall 3 (by kernel_rfl)
              have hb4_ := hall 4 (by kernel_rfl)
              have hb5_ := hall 5 (by kernel_rfl)
              have hb6_ := hall 6 (by kernel_rfl)
              have hb7_ := hall 7 (by kernel_rfl)
              have hb8_ := hall 8 (by kernel_rfl)
              have hb9_ := hall 9 (by kernel_rfl)
              have hb10_ := hall 10 (by kernel_rfl)
              have hb11_ := hall 11 (by kernel_rfl)
              have hb12_ := hall 12 (by kernel_rfl)
              have hb13_ := hall 13 (by kernel_rfl)
              have hb14_ := hall 14 (by kernel_rfl)
              have hb15_ := hall 15 (by kernel_rfl)
              have hb16_ := hall 16 (by kernel_rfl)
              have hb17_ := hall 17 (by kernel_rfl)
              have hb18_ := hall 18 (by kernel_rfl)
              have hb19_ := hall 19 (by kernel_rfl)
              have hb20_ := hall 20 (by kernel_rfl)
              subst ha
              simp only [putSel, hb0_, hb1_, hb2_, hb3_, hb4_, hb5_, hb6_, hb7_, hb8_, hb9_, hb10_, hb11_, hb12_, hb13_, hb14_, hb15_, hb16_, hb17_, hb18_, hb19_, hb20_, if_true, Act.put, List.setIfInBounds_toArray, List.set_cons_zero, List.set_cons_succ]
              have HBr := Aside0.mk Q_HBr
              clear Q_HBr
              clear hall hb0_ hb1_ hb2_ hb3_ hb4_ hb5_ hb6_ hb7_ hb8_ hb9_ hb10_ hb11_ hb12_ hb13_ hb14_ hb15_ hb16_ hb17_ hb18_ hb19_ hb20_
              go_wp2
              go_roundw
              case rel => exact ⟨k + 1, by omega, by omega, by go_num, HBr.out⟩
              case measure => simp [intOf]; omega
          · go_wp2
            go_roundw
            case rel => exact ⟨i + 1, by omega, by omega, by go_num, below_step HBL.out HBQ.out⟩
            case measure => simp [intOf]; omega
      · have hi' : (12 : Int) ≤ (i : Int) := by omega
        go_wp2
        go_ret
        exact ⟨rfl, below_step HB.out HBL.out⟩
end Go.Proofs.YtlednfddidpcdaaDoor.Wo
