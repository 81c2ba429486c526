/- SieveParts: each note is in one of the two. -/
import Derived.Test.YtcnhjbpgjemnhaaSvC
import Derived.Test.YtcnhjbpgjemnhaaSvW
import Derived.Test.YtcnhjbpgjemnhaaWInvWords
import Derived.Deep.DeepCutAuto
namespace Go.Proofs.Ytcnhjbpgjemnhaa.Sv
open Go.RowKit Go.Proofs.YtcnhjbpgjemnhaaW.PrintWords Go.Proofs.YtcnhjbpgjemnhaaW.PrintLast Go.Proofs.YtcnhjbpgjemnhaaW.PrintMore Go.Proofs.Ytcnhjbpgjemnhaa.X
set_option linter.unusedVariables false
set_option linter.unusedSimpArgs false
attribute [local go_sem high] eqA39
attribute [local go_sem ↓] Go.wp_at_zero Go.wp_at_succ

theorem len_ne (l : List S39) (p : S39 → Bool) : ((((l.filter fun x => !p x).length : Int) + ((l.filter p).length : Int)) != (l.length : Int)) = false := by
  have := filter_lengths l p
  simp
  omega
def parts.T21 : Bool × List (List Nat × List Nat) := (true, [([], []), ([], []), ([], []), ([1, 2], [1, 2]), ([3], [3]), ([0, 4], [0, 4]), ([], []), ([], []), ([], []), ([7, 8], [7, 8]), ([9], [9]), ([6, 10, 5], [6, 10]), ([5, 11], [5, 11]), ([], []), ([], []), ([], []), ([14, 15], [14, 15]), ([16], [16]), ([13, 17, 11], [13, 17]), ([12, 18], [12, 18]), ([19, 18], [19]), ([20], [20]), ([20], [20]), ([20], [20]), ([22, 23, 20], [20, 22, 23]), ([24, 20], [20, 24]), ([21, 25, 20, 20], [20, 21, 25]), ([26, 20], [20, 26]), ([27, 26, 20], [20, 27]), ([28], [28]), ([28], [28]), ([28], [28]), ([30, 31, 28], [28, 30, 31]), ([32, 28], [28, 32]), ([29, 33, 28, 28], [28, 29, 33]), ([34, 28], [28, 34]), ([28, 35, 20], [20, 28, 35]), ([20, 36], [20, 36])])
def parts.B21 : List Nat := [0, 0, 0, 6, 14, 31, 0, 0, 0, 384, 896, 2047, 4095, 0, 0, 0, 49152, 114688, 258047, 524287, 1048575, 2097151, 2097151, 2097151, 14680063, 31457279, 67108863, 134217727, 268435455, 536870911, 536870911, 536870911, 3758096383, 8053063679, 17179869183, 34359738367, 68719476735, 137438953471]
theorem parts.tab21 : rtab .any (opsOf Try.f3 21) = parts.T21 := by kernel_rfl
theorem parts.bits21 : waitsOk parts.T21.2 parts.B21 = true := by kernel_rfl
set_option maxHeartbeats 4000000 in
set_option maxRecDepth 100000 in
theorem parts_walk (A : Option Addr) (c : Nat) (l : List S39) (k : S27) (A1 A2 A3 : Option Addr) (c1 c2 c3 : Nat) (w : World) (ca : Kd.C k39 w A l.length l) (hc : l.length ≤ c)
    (k1 : Kd.C k37 w A1 k.f0.length k.f0) (k2 : Kd.C (Kd.int .i64) w A2 k.f1.length k.f1) (k3 : Kd.C k41 w A3 k.f2.length k.f2) (hk : I64 k.f3) :
    Calls Try.prog 3 #[.slice A l.length c, .agg #[.slice A1 k.f0.length c1, .slice A2 k.f1.length c2, .slice A3 k.f2.length c3, .int .i64 k.f3]] w fun e w' => e = .returned (.bool true) ∧ Below w.heap.size w w' := by
  have hu27 := Try.underlying27
  have hu39 := Try.underlying39
  have hu37 := Try.underlying37
  have hla := Kd.C_max ca
  obtain ⟨g, hg⟩ : ∃ g, greatB l k = g := ⟨_, rfl⟩
  have hb0 := below_alloc (Below.refl w.heap.size w) (.cells #[.slice A1 k.f0.length c1, .slice A2 k.f1.length c2, .slice A3 k.f2.length c3, .int .i64 k.f3] 27)
  have CA := Aside0.mk ca
  clear ca
  have K1 := Aside0.mk k1
  clear k1
  have K2 := Aside0.mk k2
  clear k2
  have K3 := Aside0.mk k3
  clear k3
  have HB0 := Aside0.mk hb0
  clear hb0
  go_enter Try.func3, Try.ntmps3
  go_wp2_with fail
  refine (awake_c _).mono ?_
  rintro e w1 ⟨rfl, hb1⟩
  have x0 : w1.cell? ⟨w.heap.size, 0, none⟩ = some (.slice A1 k.f0.length c1) := pw_cell_below hb1 (by simp)
  have x1 : w1.cell? ⟨w.heap.size, 1, none⟩ = some (.slice A2 k.f1.length c2) := pw_cell_below hb1 (by simp)
  have x2 : w1.cell? ⟨w.heap.size, 2, none⟩ = some (.slice A3 k.f2.length c3) := pw_cell_below hb1 (by simp)
  have x3 : w1.cell? ⟨w.heap.size, 3, none⟩ = some (.int .i64 k.f3) := pw_cell_below hb1 (by simp)
  have hb2 := below_step HB0.out hb1
  clear hb1
  go_wp2_with fail
  refine (great_c A c l k A1 A2 A3 c1 c2 c3 _).mono ?_
  rintro e w2 ⟨rfl, hb3⟩
  replace x0 := pw_cell_below hb3 x0
  replace x1 := pw_cell_below hb3 x1
  replace x2 := pw_cell_below hb3 x2
  replace x3 := pw_cell_below hb3 x3
  have hb4 := below_step hb2 hb3
  clear hb3 hb2
  rw [hg]
  cases g
  · have hl60 : l.length ≤ 60 := by simp [greatB] at hg; omega
    have HG := Aside0.mk hg
    clear hg
    have HB4 := Aside0.mk hb4
    clear hb4
    go_wp2_with fail
    go_loopw [5] (fun i wr => ∃ n : Nat, n ≤ 4 ∧ i = .int .i64 n ∧ Aside0 (Below w.heap.size w wr) ∧ wr.cell? ⟨w.heap.size, 0, none⟩ = some (.slice A1 k.f0.length c1) ∧ wr.cell? ⟨w.heap.size, 1, none⟩ = some (.slice A2 k.f1.length c2) ∧ wr.cell? ⟨w.heap.size, 2, none⟩ = some (.slice A3 k.f2.length c3) ∧ wr.cell? ⟨w.heap.size, 3, none⟩ = some (.int .i64 k.f3)) (fun i _ => 4 - (intOf i).toNat)
    case atStart => exact ⟨0, by omega, rfl, HB4, x0, x1, x2, x3⟩
    case round =>
      clear x0 x1 x2 x3 HB4
      obtain ⟨n, hn, rfl, HB, x0, x1, x2, x3⟩ := hrel
      obtain ⟨wo, rfl⟩ : ∃ wo : World, wo = wr := ⟨_, rfl⟩
      by_cases h4 : n = 4
      · subst h4
        go_wp2
        go_ret
        exact ⟨rfl, HB.out⟩
      · go_wp2_with fail
        refine (Epochs k.f3 A c l wo (Kd.C_below CA.out HB.out) hc (by omega) hk).mono ?_
        rintro e w3 ⟨v1, v2, rfl, h1, h2, hb⟩
        replace x0 := pw_cell_below hb x0
        replace x1 := pw_cell_below hb x1
        replace x2 := pw_cell_below hb x2
        replace x3 := pw_cell_below hb x3
        have HB3 := Aside0.mk (below_step HB.out hb)
        go_upto_block 2 with (fail)
        go_cut [6, 7] (fun s1 s2 wx => ∃ (p : S39 → Bool) (B1 B2 : Option Addr) (n1 n2 : Nat), s1 = .slice B1 (l.filter fun x => !p x).length n1 ∧ s2 = .slice B2 (l.filter p).length n2 ∧ Aside0 ((l.filter fun x => !p x).length ≤ n1 ∧ Kd.C k39 wx B1 (l.filter fun x => !p x).length (l.filter fun x => !p x)) ∧ Aside0 ((l.filter p).length ≤ n2 ∧ Kd.C k39 wx B2 (l.filter p).length (l.filter p)) ∧ Aside0 (Below w.heap.size w wx) ∧ wx.cell? ⟨w.heap.size, 0, none⟩ = some (.slice A1 k.f0.length c1) ∧ wx.cell? ⟨w.heap.size, 1, none⟩ = some (.slice A2 k.f1.length c2) ∧ wx.cell? ⟨w.heap.size, 2, none⟩ = some (.slice A3 k.f2.length c3) ∧ wx.cell? ⟨w.heap.size, 3, none⟩ = some (.int .i64 k.f3))
        case first =>
          obtain ⟨B1, n1, rfl⟩ := Kd.R_slice h1
          obtain ⟨B2, n2, rfl⟩ := Kd.R_slice h2
          have HC1 := Aside0.mk (Kd.R_reads' h1)
          have HC2 := Aside0.mk (Kd.R_reads' h2)
          clear h1 h2 hb
          obtain rfl | rfl | rfl | rfl : n = 0 ∨ n = 1 ∨ n = 2 ∨ n = 3 := by omega
          all_goals go_wp2_with fail
          · clear HC1 HC2
            refine (Slots A1 c1 k.f0 A c l w3 (Kd.C_below CA.out HB3.out) hc (by omega) (Kd.C_below K1.out HB3.out)).mono ?_
            rintro e w4 ⟨v1, v2, rfl, h1, h2, hb⟩
            replace x0 := pw_cell_below hb x0
            replace x1 := pw_cell_below hb x1
            replace x2 := pw_cell_below hb x2
            replace x3 := pw_cell_below hb x3
            have HB5 := Aside0.mk (below_step HB3.out hb)
            obtain ⟨B3, n3, rfl⟩ := Kd.R_slice h1
            obtain ⟨B4, n4, rfl⟩ := Kd.R_slice h2
            have HC1 := Aside0.mk (Kd.R_reads' h1)
            have HC2 := Aside0.mk (Kd.R_reads' h2)
            clear h1 h2 hb
            go_wp2_with fail
            go_meet
            exact ⟨_, _, _, _, _, rfl, rfl, ⟨HC1.out.2⟩, ⟨HC2.out.2⟩, HB5, x0, x1, x2, x3⟩
          · clear HC1 HC2
            refine (Eras A2 c2 k.f1 A c l w3 (Kd.C_below CA.out HB3.out) hc (by omega) (Kd.C_below K2.out HB3.out)).mono ?_
            rintro e w4 ⟨v1, v2, rfl, h1, h2, hb⟩
            replace x0 := pw_cell_below hb x0
            replace x1 := pw_cell_below hb x1
            replace x2 := pw_cell_below hb x2
            replace x3 := pw_cell_below hb x3
            have HB5 := Aside0.mk (below_step HB3.out hb)
            obtain ⟨B3, n3, rfl⟩ := Kd.R_slice h1
            obtain ⟨B4, n4, rfl⟩ := Kd.R_slice h2
            have HC1 := Aside0.mk (Kd.R_reads' h1)
            have HC2 := Aside0.mk (Kd.R_reads' h2)
            clear h1 h2 hb
            go_wp2_with fail
            go_meet
            exact ⟨_, _, _, _, _, rfl, rfl, ⟨HC1.out.2⟩, ⟨HC2.out.2⟩, HB5, x0, x1, x2, x3⟩
          · clear HC1 HC2
            refine (Spans A3 c3 k.f2 A c l w3 (Kd.C_below CA.out HB3.out) hc (by omega) (Kd.C_below K3.out HB3.out)).mono ?_
            rintro e w4 ⟨v1, v2, rfl, h1, h2, hb⟩
            replace x0 := pw_cell_below hb x0
            replace x1 := pw_cell_below hb x1
            replace x2 := pw_cell_below hb x2
            replace x3 := pw_cell_below hb x3
            have HB5 := Aside0.mk (below_step HB3.out hb)
            obtain ⟨B3, n3, rfl⟩ := Kd.R_slice h1
            obtain ⟨B4, n4, rfl⟩ := Kd.R_slice h2
            have HC1 := Aside0.mk (Kd.R_reads' h1)
            have HC2 := Aside0.mk (Kd.R_reads' h2)
            clear h1 h2 hb
            go_wp2_with fail
            go_meet
            exact ⟨_, _, _, _, _, rfl, rfl, ⟨HC1.out.2⟩, ⟨HC2.out.2⟩, HB5, x0, x1, x2, x3⟩
          · go_meet
            exact ⟨_, _, _, _, _, rfl, rfl, ⟨HC1.out.2⟩, ⟨HC2.out.2⟩, HB3, x0, x1, x2, x3⟩
        case rest =>
          obtain ⟨p, B1, B2, n1, n2, rfl, rfl, HC1, HC2, HB3, x0, x1, x2, x3⟩ := hcut
          have hln := len_ne l p
          have hl2 : ((l.filter fun x => !p x).length) ≤ l.length := List.length_filter_le _ _
          have hl1 : ((l.filter p).length) ≤ l.length := List.length_filter_le _ _
          go_wp2_with fail
          obtain ⟨wy, hwy⟩ : ∃ wy : World, wy = wc := ⟨_, rfl⟩
          clear hwy wy
          go_loopw [8] (fun i wr => ∃ m : Nat, m ≤ l.length ∧ i = .int .i64 m ∧ Below wc.heap.size wc wr) (fun i _ => l.length - (intOf i).toNat)
          case atStart => exact ⟨0, by omega, rfl, Below.refl _ _⟩
          case round =>
            obtain ⟨m, hm, rfl, hbr⟩ := hrel
            by_cases hlt : m < l.length
            · have hkk : (0 : Int) ≤ (m : Int) := by omega
              have hkn : (m : Int) < (l.length : Int) := by omega
              have hbw := below_step HB3.out hbr
              obtain ⟨ad, eA, q0, q1, q2, q3, q4, q5, q6⟩ := at_T39 CA.out (m : Int) (by omega) (by omega)
              simp only [Int.toNat_natCast] at q0 q1 q2 q3 q4 q5 q6
              cases eA
              replace q0 := pw_cell_below hbw q0
              replace q1 := pw_cell_below hbw q1
              replace q2 := pw_cell_below hbw q2
              replace q3 := pw_cell_below hbw q3
              replace q4 := pw_cell_below hbw q4
              replace q5 := pw_cell_below hbw q5
              replace q6 := pw_cell_below hbw q6
              have HHL := Aside0.mk ((fun W h => count_c _ c l _ W (Kd.C_below CA.out (below_step hbw h)) hc) : ∀ W, Below wr.heap.size wr W → Calls Try.prog 14 #[.slice (some ad) l.length c, v39 (rd_T39 l (m : Int))] W fun e w' => e = .returned (.int .i64 (cnt l (rd_T39 l (m : Int)))) ∧ Below W.heap.size W w')
              have hcn : cnt l (rd_T39 l (m : Int)) ≤ 60 := Nat.le_trans (List.length_filter_le _ _) hl60
              have h1 : ∀ W, Below wr.heap.size wr W → Calls Try.prog 14 #[.slice B1 (l.filter fun x => !p x).length n1, v39 (rd_T39 l (m : Int))] W fun e w' => e = .returned (.int .i64 (cnt (l.filter fun x => !p x) (rd_T39 l (m : Int)))) ∧ Below W.heap.size W w' := fun W h => count_c _ _ _ _ W (Kd.C_below (Kd.C_below HC1.out.2 hbr) h) HC1.out.1
              have h2 : ∀ W, Below wr.heap.size wr W → Calls Try.prog 14 #[.slice B2 (l.filter p).length n2, v39 (rd_T39 l (m : Int))] W fun e w' => e = .returned (.int .i64 (cnt (l.filter p) (rd_T39 l (m : Int)))) ∧ Below W.heap.size W w' := fun W h => count_c _ _ _ _ W (Kd.C_below (Kd.C_below HC2.out.2 hbr) h) HC2.out.1
              have hno1 := cnt_filter_no l p (rd_T39 l (m : Int))
              have hye1 := cnt_filter_yes l p (rd_T39 l (m : Int))
              have hno2 := cnt_filter_no l (fun x => !p x) (rd_T39 l (m : Int))
              have hye2 := cnt_filter_yes l (fun x => !p x) (rd_T39 l (m : Int))
              have hz0 : 0 ≤ ((cnt l (rd_T39 l (m : Int)) : Nat) : Int) := by omega
              have hz1 : ((cnt l (rd_T39 l (m : Int)) : Nat) : Int) ≤ 60 := by omega
              clear hcn
              cases hp : p (rd_T39 l (m : Int))
              · rw [hno1 hp] at h2
                rw [hye2 (by simp [hp])] at h1
                clear hno1 hye1 hno2 hye2 hp
                generalize ((cnt l (rd_T39 l (m : Int)) : Nat) : Int) = z at h1 h2 HHL hz0 hz1
                have hwz : IntKind.i64.wrap z = z := IntWalk.i64_in _ (by omega)
                have HH1 := Aside0.mk h1
                have HH2 := Aside0.mk (show ∀ W, Below wr.heap.size wr W → Calls Try.prog 14 #[.slice B2 (l.filter p).length n2, v39 (rd_T39 l (m : Int))] W fun e w' => e = .returned (.int .i64 0) ∧ Below W.heap.size W w' from h2)
                clear h1 h2
                by_cases hn0 : 0 < z
                · go_wp2
                  refine start_ (n := 38) (S := fun w' => True) (ds := []) #[false, false, false, false, false, false, false, false, false, false, false, false, false, false, false, false, false, false, false, false, false, false, false, false, false, false, false, false, false, false, false, false, false, false, false, false, false, false] (by kernel_rfl) rfl rfl trivial (fun hHeld => ?_)
                  refine with_tabW parts.tab21 parts.bits21 (fun HT_ HW_ => ?_)
                  have HBr := Aside0.mk (below_drew1 (Below.refl wr.heap.size wr))
                  refine inv_at [0, 1, 2, 3, 4, 5, 6, 7, 8, 9, 10, 11, 12, 13, 14, 15, 16, 17, 18, 19, 20, 21, 22, 23, 24, 25, 26, 27, 28, 29, 30, 31, 32, 33, 34, 35, 36, 37] (fun a0_ b a w' => a = putSel a0_ b [(0, 67, .slice B1 (l.filter fun x => !p x).length n1), (1, 68, .slice (some ad) l.length c), (2, 69, .int .i64 (m : Int)), (3, 70, .pointer (some (ad.add (m * 7)))), (4, 71, .agg #[.int .i64 (rd_T39 l (m : Int)).f0.f0, .int .i64 (rd_T39 l (m : Int)).f0.f1, .int .i64 (rd_T39 l (m : Int)).f0.f2, .int .i64 (rd_T39 l (m : Int)).f0.f3, .bool (rd_T39 l (m : Int)).f0.f4, .int .i64 (rd_T39 l (m : Int)).f1, .int .i64 (rd_T39 l (m : Int)).f2]), (5, 72, .int .i64 z), (6, 73, .slice B2 (l.filter p).length n2), (7, 74, .slice (some ad) l.length c), (8, 75, .int .i64 (m : Int)), (9, 76, .pointer (some (ad.add (m * 7)))), (10, 77, .agg #[.int .i64 (rd_T39 l (m : Int)).f0.f0, .int .i64 (rd_T39 l (m : Int)).f0.f1, .int .i64 (rd_T39 l (m : Int)).f0.f2, .int .i64 (rd_T39 l (m : Int)).f0.f3, .bool (rd_T39 l (m : Int)).f0.f4, .int .i64 (rd_T39 l (m : Int)).f1, .int .i64 (rd_T39 l (m : Int)).f2]), (11, 78, .int .i64 0), (12, 79, .int .i64 z), (13, 80, .slice (some ad) l.length c), (14, 81, .slice (some ad) l.length c), (15, 82, .int .i64 (m : Int)), (16, 83, .pointer (some (ad.add (m * 7)))), (17, 84, .agg #[.int .i64 (rd_T39 l (m : Int)).f0.f0, .int .i64 (rd_T39 l (m : Int)).f0.f1, .int .i64 (rd_T39 l (m : Int)).f0.f2, .int .i64 (rd_T39 l (m : Int)).f0.f3, .bool (rd_T39 l (m : Int)).f0.f4, .int .i64 (rd_T39 l (m : Int)).f1, .int .i64 (rd_T39 l (m : Int)).f2]), (18, 85, .int .i64 z), (19, 86, .bool false), (20, 87, .bool false), (21, 88, .slice B1 (l.filter fun x => !p x).length n1), (22, 89, .slice (some ad) l.length c), (23, 90, .int .i64 (m : Int)), (24, 91, .pointer (some (ad.add (m * 7)))), (25, 92, .agg #[.int .i64 (rd_T39 l (m : Int)).f0.f0, .int .i64 (rd_T39 l (m : Int)).f0.f1, .int .i64 (rd_T39 l (m : Int)).f0.f2, .int .i64 (rd_T39 l (m : Int)).f0.f3, .bool (rd_T39 l (m : Int)).f0.f4, .int .i64 (rd_T39 l (m : Int)).f1, .int .i64 (rd_T39 l (m : Int)).f2]), (26, 93, .int .i64 z), (27, 94, .bool true), (28, 95, .bool true), (29, 96, .slice B2 (l.filter p).length n2), (30, 97, .slice (some ad) l.length c), (31, 98, .int .i64 (m : Int)), (32, 99, .pointer (some (ad.add (m * 7)))), (33, 100, .agg #[.int .i64 (rd_T39 l (m : Int)).f0.f0, .int .i64 (rd_T39 l (m : Int)).f0.f1, .int .i64 (rd_T39 l (m : Int)).f0.f2, .int .i64 (rd_T39 l (m : Int)).f0.f3, .bool (rd_T39 l (m : Int)).f0.f4, .int .i64 (rd_T39 l (m : Int)).f1, .int .i64 (rd_T39 l (m : Int)).f2]), (34, 101, .int .i64 0), (35, 102, .bool false), (36, 103, .bool false), (37, 104, .bool false)] ∧ (Below wr.heap.size wr w')) HT_.out HW_.out (by kernel_rfl) (by kernel_rfl) ?_ ?_ ?_
                  · exact ⟨by simp only [putSel, Bool.false_eq_true, if_false], HBr.out⟩
                  · skip
                    clear HBr
                    refine steps_cons ?_ ?_
                    · rintro b a w' ⟨ha, Q_HBr⟩ hb_ hon hoff
                      refine ⟨_, rfl, fun K hK => ?_⟩
                      have e6 : a.tmps[6]? = some (.slice B1 (l.filter fun x => !p x).length n1) := by rw [ha]; exact (putSel_off rfl).trans rfl
                      replace ha := Aside0.mk ha
                      have HBr := Aside0.mk Q_HBr
                      refine value_ (w1 := w') (v := .slice B1 (l.filter fun x => !p x).length n1) (by rfl) rfl ?_ ?_
                      · go_simp
                        (try simp only [i64_w])
                        try rfl
                      refine hK.out _ _ ⟨(by rw [ha.out]; exact putSel_upk 0 hb_ rfl rfl rfl), Q_HBr⟩
                    refine steps_cons ?_ ?_
                    · rintro b a w' ⟨ha, Q_HBr⟩ hb_ hon hoff
                      refine ⟨_, rfl, fun K hK => ?_⟩
                      have e0 : a.tmps[0]? = some (.slice (some ad) l.length c) := by rw [ha]; exact (putSel_off rfl).trans rfl
                      replace ha := Aside0.mk ha
                      have HBr := Aside0.mk Q_HBr
                      refine value_ (w1 := w') (v := .slice (some ad) l.length c) (by rfl) rfl ?_ ?_
                      · go_simp
                        (try simp only [i64_w])
                        try rfl
                      refine hK.out _ _ ⟨(by rw [ha.out]; exact putSel_upk 1 hb_ rfl rfl rfl), Q_HBr⟩
                    refine steps_cons ?_ ?_
                    · rintro b a w' ⟨ha, Q_HBr⟩ hb_ hon hoff
                      refine ⟨_, rfl, fun K hK => ?_⟩
                      have e8 : a.tmps[8]? = some (.int .i64 (m : Int)) := by rw [ha]; exact (putSel_off rfl).trans rfl
                      replace ha := Aside0.mk ha
                      have HBr := Aside0.mk Q_HBr
                      refine value_ (w1 := w') (v := .int .i64 (m : Int)) (by rfl) rfl ?_ ?_
                      · go_simp
                        (try simp only [i64_w])
                        try rfl
                      refine hK.out _ _ ⟨(by rw [ha.out]; exact putSel_upk 2 hb_ rfl rfl rfl), Q_HBr⟩
                    refine steps_cons ?_ ?_
                    · rintro b a w' ⟨ha, Q_HBr⟩ hb_ hon hoff
                      refine ⟨_, rfl, fun K hK => ?_⟩
                      have e68 : a.tmps[68]? = some (.slice (some ad) l.length c) := by rw [ha]; exact putSel_on (e := (1, 68, .slice (some ad) l.length c)) 1 rfl rfl (hon 1 (by kernel_rfl)) rfl
                      have e69 : a.tmps[69]? = some (.int .i64 (m : Int)) := by rw [ha]; exact putSel_on (e := (2, 69, .int .i64 (m : Int))) 2 rfl rfl (hon 2 (by kernel_rfl)) rfl
                      replace ha := Aside0.mk ha
                      have HBr := Aside0.mk Q_HBr
                      refine value_ (w1 := w') (v := .pointer (some (ad.add (m * 7)))) (by rfl) rfl ?_ ?_
                      · go_simp
                        (try simp only [i64_w])
                        try rfl
                      refine hK.out _ _ ⟨(by rw [ha.out]; exact putSel_upk 3 hb_ rfl rfl rfl), Q_HBr⟩
                    refine steps_cons ?_ ?_
                    · rintro b a w' ⟨ha, Q_HBr⟩ hb_ hon hoff
                      refine ⟨_, rfl, fun K hK => ?_⟩
                      have e70 : a.tmps[70]? = some (.pointer (some (ad.add (m * 7)))) := by rw [ha]; exact putSel_on (e := (3, 70, .pointer (some (ad.add (m * 7))))) 3 rfl rfl (hon 3 (by kernel_rfl)) rfl
                      replace ha := Aside0.mk ha
                      have HBr := Aside0.mk Q_HBr
                      have z0 := pw_cell_below HBr.out q0
                      have z1 := pw_cell_below HBr.out q1
                      have z2 := pw_cell_below HBr.out q2
                      have z3 := pw_cell_below HBr.out q3
                      have z4 := pw_cell_below HBr.out q4
                      have z5 := pw_cell_below HBr.out q5
                      have z6 := pw_cell_below HBr.out q6
                      refine value_ (w1 := w') (v := .agg #[.int .i64 (rd_T39 l (m : Int)).f0.f0, .int .i64 (rd_T39 l (m : Int)).f0.f1, .int .i64 (rd_T39 l (m : Int)).f0.f2, .int .i64 (rd_T39 l (m : Int)).f0.f3, .bool (rd_T39 l (m : Int)).f0.f4, .int .i64 (rd_T39 l (m : Int)).f1, .int .i64 (rd_T39 l (m : Int)).f2]) (by rfl) rfl ?_ ?_
                      · go_simp
                        (try simp only [i64_w])
                        try rfl
                      refine hK.out _ _ ⟨(by rw [ha.out]; exact putSel_upk 4 hb_ rfl rfl rfl), Q_HBr⟩
                    refine steps_cons ?_ ?_
                    · rintro b a w' ⟨ha, Q_HBr⟩ hb_ hon hoff
                      refine ⟨_, rfl, fun K hK => ?_⟩
                      have e67 : a.tmps[67]? = some (.slice B1 (l.filter fun x => !p x).length n1) := by rw [ha]; exact putSel_on (e := (0, 67, .slice B1 (l.filter fun x => !p x).length n1)) 0 rfl rfl (hon 0 (by kernel_rfl)) rfl
                      have e71 : a.tmps[71]? = some (.agg #[.int .i64 (rd_T39 l (m : Int)).f0.f0, .int .i64 (rd_T39 l (m : Int)).f0.f1, .int .i64 (rd_T39 l (m : Int)).f0.f2, .int .i64 (rd_T39 l (m : Int)).f0.f3, .bool (rd_T39 l (m : Int)).f0.f4, .int .i64 (rd_T39 l (m : Int)).f1, .int .i64 (rd_T39 l (m : Int)).f2]) := by rw [ha]; exact putSel_on (e := (4, 71, .agg #[.int .i64 (rd_T39 l (m : Int)).f0.f0, .int .i64 (rd_T39 l (m : Int)).f0.f1, .int .i64 (rd_T39 l (m : Int)).f0.f2, .int .i64 (rd_T39 l (m : Int)).f0.f3, .bool (rd_T39 l (m : Int)).f0.f4, .int .i64 (rd_T39 l (m : Int)).f1, .int .i64 (rd_T39 l (m : Int)).f2])) 4 rfl rfl (hon 4 (by kernel_rfl)) rfl
                      replace ha := Aside0.mk ha
                      have HBr := Aside0.mk Q_HBr
                      refine goes_ Try.func14 (by kernel_rfl) rfl #[.slice B1 (l.filter fun x => !p x).length n1, .agg #[.int .i64 (rd_T39 l (m : Int)).f0.f0, .int .i64 (rd_T39 l (m : Int)).f0.f1, .int .i64 (rd_T39 l (m : Int)).f0.f2, .int .i64 (rd_T39 l (m : Int)).f0.f3, .bool (rd_T39 l (m : Int)).f0.f4, .int .i64 (rd_T39 l (m : Int)).f1, .int .i64 (rd_T39 l (m : Int)).f2]] (by rfl) rfl rfl (by first | (simp only [List.map_toArray, List.map_cons, List.map_nil, Act.eval, Array.getD_eq_getD_getElem?, Option.getD_some, e67, e71]; done) | (simp only [List.map_toArray, List.map_cons, List.map_nil, Act.eval, Array.getD_eq_getD_getElem?, Option.getD_some, e67, e71]; rfl)) ?_
                      refine (HH1.out _ HBr.out).mono ?_
                      rintro e w1 ⟨rfl, hb1⟩
                      refine ⟨_, rfl, ?_⟩
                      refine hK.out _ _ ⟨(by rw [ha.out]; exact putSel_upk 5 hb_ rfl rfl rfl), below_step HBr.out hb1⟩
                    refine steps_cons ?_ ?_
                    · rintro b a w' ⟨ha, Q_HBr⟩ hb_ hon hoff
                      refine ⟨_, rfl, fun K hK => ?_⟩
                      have e7 : a.tmps[7]? = some (.slice B2 (l.filter p).length n2) := by rw [ha]; exact (putSel_off rfl).trans rfl
                      replace ha := Aside0.mk ha
                      have HBr := Aside0.mk Q_HBr
                      refine value_ (w1 := w') (v := .slice B2 (l.filter p).length n2) (by rfl) rfl ?_ ?_
                      · go_simp
                        (try simp only [i64_w])
                        try rfl
                      refine hK.out _ _ ⟨(by rw [ha.out]; exact putSel_upk 6 hb_ rfl rfl rfl), Q_HBr⟩
                    refine steps_cons ?_ ?_
                    · rintro b a w' ⟨ha, Q_HBr⟩ hb_ hon hoff
                      refine ⟨_, rfl, fun K hK => ?_⟩
                      have e0 : a.tmps[0]? = some (.slice (some ad) l.length c) := by rw [ha]; exact (putSel_off rfl).trans rfl
                      replace ha := Aside0.mk ha
                      have HBr := Aside0.mk Q_HBr
                      refine value_ (w1 := w') (v := .slice (some ad) l.length c) (by rfl) rfl ?_ ?_
                      · go_simp
                        (try simp only [i64_w])
                        try rfl
                      refine hK.out _ _ ⟨(by rw [ha.out]; exact putSel_upk 7 hb_ rfl rfl rfl), Q_HBr⟩
                    refine steps_cons ?_ ?_
                    · rintro b a w' ⟨ha, Q_HBr⟩ hb_ hon hoff
                      refine ⟨_, rfl, fun K hK => ?_⟩
                      have e8 : a.tmps[8]? = some (.int .i64 (m : Int)) := by rw [ha]; exact (putSel_off rfl).trans rfl
                      replace ha := Aside0.mk ha
                      have HBr := Aside0.mk Q_HBr
                      refine value_ (w1 := w') (v := .int .i64 (m : Int)) (by rfl) rfl ?_ ?_
                      · go_simp
                        (try simp only [i64_w])
                        try rfl
                      refine hK.out _ _ ⟨(by rw [ha.out]; exact putSel_upk 8 hb_ rfl rfl rfl), Q_HBr⟩
                    refine steps_cons ?_ ?_
                    · rintro b a w' ⟨ha, Q_HBr⟩ hb_ hon hoff
                      refine ⟨_, rfl, fun K hK => ?_⟩
                      have e74 : a.tmps[74]? = some (.slice (some ad) l.length c) := by rw [ha]; exact putSel_on (e := (7, 74, .slice (some ad) l.length c)) 7 rfl rfl (hon 7 (by kernel_rfl)) rfl
                      have e75 : a.tmps[75]? = some (.int .i64 (m : Int)) := by rw [ha]; exact putSel_on (e := (8, 75, .int .i64 (m : Int))) 8 rfl rfl (hon 8 (by kernel_rfl)) rfl
                      replace ha := Aside0.mk ha
                      have HBr := Aside0.mk Q_HBr
                      refine value_ (w1 := w') (v := .pointer (some (ad.add (m * 7)))) (by rfl) rfl ?_ ?_
                      · go_simp
                        (try simp only [i64_w])
                        try rfl
                      refine hK.out _ _ ⟨(by rw [ha.out]; exact putSel_upk 9 hb_ rfl rfl rfl), Q_HBr⟩
                    refine steps_cons ?_ ?_
                    · rintro b a w' ⟨ha, Q_HBr⟩ hb_ hon hoff
                      refine ⟨_, rfl, fun K hK => ?_⟩
                      have e76 : a.tmps[76]? = some (.pointer (some (ad.add (m * 7)))) := by rw [ha]; exact putSel_on (e := (9, 76, .pointer (some (ad.add (m * 7))))) 9 rfl rfl (hon 9 (by kernel_rfl)) rfl
                      replace ha := Aside0.mk ha
                      have HBr := Aside0.mk Q_HBr
                      have z0 := pw_cell_below HBr.out q0
                      have z1 := pw_cell_below HBr.out q1
                      have z2 := pw_cell_below HBr.out q2
                      have z3 := pw_cell_below HBr.out q3
                      have z4 := pw_cell_below HBr.out q4
                      have z5 := pw_cell_below HBr.out q5
                      have z6 := pw_cell_below HBr.out q6
                      refine value_ (w1 := w') (v := .agg #[.int .i64 (rd_T39 l (m : Int)).f0.f0, .int .i64 (rd_T39 l (m : Int)).f0.f1, .int .i64 (rd_T39 l (m : Int)).f0.f2, .int .i64 (rd_T39 l (m : Int)).f0.f3, .bool (rd_T39 l (m : Int)).f0.f4, .int .i64 (rd_T39 l (m : Int)).f1, .int .i64 (rd_T39 l (m : Int)).f2]) (by rfl) rfl ?_ ?_
                      · go_simp
                        (try simp only [i64_w])
                        try rfl
                      refine hK.out _ _ ⟨(by rw [ha.out]; exact putSel_upk 10 hb_ rfl rfl rfl), Q_HBr⟩
                    refine steps_cons ?_ ?_
                    · rintro b a w' ⟨ha, Q_HBr⟩ hb_ hon hoff
                      refine ⟨_, rfl, fun K hK => ?_⟩
                      have e73 : a.tmps[73]? = some (.slice B2 (l.filter p).length n2) := by rw [ha]; exact putSel_on (e := (6, 73, .slice B2 (l.filter p).length n2)) 6 rfl rfl (hon 6 (by kernel_rfl)) rfl
                      have e77 : a.tmps[77]? = some (.agg #[.int .i64 (rd_T39 l (m : Int)).f0.f0, .int .i64 (rd_T39 l (m : Int)).f0.f1, .int .i64 (rd_T39 l (m : Int)).f0.f2, .int .i64 (rd_T39 l (m : Int)).f0.f3, .bool (rd_T39 l (m : Int)).f0.f4, .int .i64 (rd_T39 l (m : Int)).f1, .int .i64 (rd_T39 l (m : Int)).f2]) := by rw [ha]; exact putSel_on (e := (10, 77, .agg #[.int .i64 (rd_T39 l (m : Int)).f0.f0, .int .i64 (rd_T39 l (m : Int)).f0.f1, .int .i64 (rd_T39 l (m : Int)).f0.f2, .int .i64 (rd_T39 l (m : Int)).f0.f3, .bool (rd_T39 l (m : Int)).f0.f4, .int .i64 (rd_T39 l (m : Int)).f1, .int .i64 (rd_T39 l (m : Int)).f2])) 10 rfl rfl (hon 10 (by kernel_rfl)) rfl
                      replace ha := Aside0.mk ha
                      have HBr := Aside0.mk Q_HBr
                      refine goes_ Try.func14 (by kernel_rfl) rfl #[.slice B2 (l.filter p).length n2, .agg #[.int .i64 (rd_T39 l (m : Int)).f0.f0, .int .i64 (rd_T39 l (m : Int)).f0.f1, .int .i64 (rd_T39 l (m : Int)).f0.f2, .int .i64 (rd_T39 l (m : Int)).f0.f3, .bool (rd_T39 l (m : Int)).f0.f4, .int .i64 (rd_T39 l (m : Int)).f1, .int .i64 (rd_T39 l (m : Int)).f2]] (by rfl) rfl rfl (by first | (simp only [List.map_toArray, List.map_cons, List.map_nil, Act.eval, Array.getD_eq_getD_getElem?, Option.getD_some, e73, e77]; done) | (simp only [List.map_toArray, List.map_cons, List.map_nil, Act.eval, Array.getD_eq_getD_getElem?, Option.getD_some, e73, e77]; rfl)) ?_
                      refine (HH2.out _ HBr.out).mono ?_
                      rintro e w1 ⟨rfl, hb1⟩
                      refine ⟨_, rfl, ?_⟩
                      refine hK.out _ _ ⟨(by rw [ha.out]; exact putSel_upk 11 hb_ rfl rfl rfl), below_step HBr.out hb1⟩
                    refine steps_cons ?_ ?_
                    · rintro b a w' ⟨ha, Q_HBr⟩ hb_ hon hoff
                      refine ⟨_, rfl, fun K hK => ?_⟩
                      have e72 : a.tmps[72]? = some (.int .i64 z) := by rw [ha]; exact putSel_on (e := (5, 72, .int .i64 z)) 5 rfl rfl (hon 5 (by kernel_rfl)) rfl
                      have e78 : a.tmps[78]? = some (.int .i64 0) := by rw [ha]; exact putSel_on (e := (11, 78, .int .i64 0)) 11 rfl rfl (hon 11 (by kernel_rfl)) rfl
                      replace ha := Aside0.mk ha
                      have HBr := Aside0.mk Q_HBr
                      refine value_ (w1 := w') (v := .int .i64 z) (by rfl) rfl ?_ ?_
                      · go_simp
                        (try simp only [i64_w])
                        try rfl
                      refine hK.out _ _ ⟨(by rw [ha.out]; exact putSel_upk 12 hb_ rfl rfl rfl), Q_HBr⟩
                    refine steps_cons ?_ ?_
                    · rintro b a w' ⟨ha, Q_HBr⟩ hb_ hon hoff
                      refine ⟨_, rfl, fun K hK => ?_⟩
                      have e0 : a.tmps[0]? = some (.slice (some ad) l.length c) := by rw [ha]; exact (putSel_off rfl).trans rfl
                      replace ha := Aside0.mk ha
                      have HBr := Aside0.mk Q_HBr
                      refine value_ (w1 := w') (v := .slice (some ad) l.length c) (by rfl) rfl ?_ ?_
                      · go_simp
                        (try simp only [i64_w])
                        try rfl
                      refine hK.out _ _ ⟨(by rw [ha.out]; exact putSel_upk 13 hb_ rfl rfl rfl), Q_HBr⟩
                    refine steps_cons ?_ ?_
                    · rintro b a w' ⟨ha, Q_HBr⟩ hb_ hon hoff
                      refine ⟨_, rfl, fun K hK => ?_⟩
                      have e0 : a.tmps[0]? = some (.slice (some ad) l.length c) := by rw [ha]; exact (putSel_off rfl).trans rfl
                      replace ha := Aside0.mk ha
                      have HBr := Aside0.mk Q_HBr
                      refine value_ (w1 := w') (v := .slice (some ad) l.length c) (by rfl) rfl ?_ ?_
                      · go_simp
                        (try simp only [i64_w])
                        try rfl
                      refine hK.out _ _ ⟨(by rw [ha.out]; exact putSel_upk 14 hb_ rfl rfl rfl), Q_HBr⟩
                    refine steps_cons ?_ ?_
                    · rintro b a w' ⟨ha, Q_HBr⟩ hb_ hon hoff
                      refine ⟨_, rfl, fun K hK => ?_⟩
                      have e8 : a.tmps[8]? = some (.int .i64 (m : Int)) := by rw [ha]; exact (putSel_off rfl).trans rfl
                      replace ha := Aside0.mk ha
                      have HBr := Aside0.mk Q_HBr
                      refine value_ (w1 := w') (v := .int .i64 (m : Int)) (by rfl) rfl ?_ ?_
                      · go_simp
                        (try simp only [i64_w])
                        try rfl
                      refine hK.out _ _ ⟨(by rw [ha.out]; exact putSel_upk 15 hb_ rfl rfl rfl), Q_HBr⟩
                    refine steps_cons ?_ ?_
                    · rintro b a w' ⟨ha, Q_HBr⟩ hb_ hon hoff
                      refine ⟨_, rfl, fun K hK => ?_⟩
                      have e81 : a.tmps[81]? = some (.slice (some ad) l.length c) := by rw [ha]; exact putSel_on (e := (14, 81, .slice (some ad) l.length c)) 14 rfl rfl (hon 14 (by kernel_rfl)) rfl
                      have e82 : a.tmps[82]? = some (.int .i64 (m : Int)) := by rw [ha]; exact putSel_on (e := (15, 82, .int .i64 (m : Int))) 15 rfl rfl (hon 15 (by kernel_rfl)) rfl
                      replace ha := Aside0.mk ha
                      have HBr := Aside0.mk Q_HBr
                      refine value_ (w1 := w') (v := .pointer (some (ad.add (m * 7)))) (by rfl) rfl ?_ ?_
                      · go_simp
                        (try simp only [i64_w])
                        try rfl
                      refine hK.out _ _ ⟨(by rw [ha.out]; exact putSel_upk 16 hb_ rfl rfl rfl), Q_HBr⟩
                    refine steps_cons ?_ ?_
                    · rintro b a w' ⟨ha, Q_HBr⟩ hb_ hon hoff
                      refine ⟨_, rfl, fun K hK => ?_⟩
                      have e83 : a.tmps[83]? = some (.pointer (some (ad.add (m * 7)))) := by rw [ha]; exact putSel_on (e := (16, 83, .pointer (some (ad.add (m * 7))))) 16 rfl rfl (hon 16 (by kernel_rfl)) rfl
                      replace ha := Aside0.mk ha
                      have HBr := Aside0.mk Q_HBr
                      have z0 := pw_cell_below HBr.out q0
                      have z1 := pw_cell_below HBr.out q1
                      have z2 := pw_cell_below HBr.out q2
                      have z3 := pw_cell_below HBr.out q3
                      have z4 := pw_cell_below HBr.out q4
                      have z5 := pw_cell_below HBr.out q5
                      have z6 := pw_cell_below HBr.out q6
                      refine value_ (w1 := w') (v := .agg #[.int .i64 (rd_T39 l (m : Int)).f0.f0, .int .i64 (rd_T39 l (m : Int)).f0.f1, .int .i64 (rd_T39 l (m : Int)).f0.f2, .int .i64 (rd_T39 l (m : Int)).f0.f3, .bool (rd_T39 l (m : Int)).f0.f4, .int .i64 (rd_T39 l (m : Int)).f1, .int .i64 (rd_T39 l (m : Int)).f2]) (by rfl) rfl ?_ ?_
                      · go_simp
                        (try simp only [i64_w])
                        try rfl
                      refine hK.out _ _ ⟨(by rw [ha.out]; exact putSel_upk 17 hb_ rfl rfl rfl), Q_HBr⟩
                    refine steps_cons ?_ ?_
                    · rintro b a w' ⟨ha, Q_HBr⟩ hb_ hon hoff
                      refine ⟨_, rfl, fun K hK => ?_⟩
                      have e80 : a.tmps[80]? = some (.slice (some ad) l.length c) := by rw [ha]; exact putSel_on (e := (13, 80, .slice (some ad) l.length c)) 13 rfl rfl (hon 13 (by kernel_rfl)) rfl
                      have e84 : a.tmps[84]? = some (.agg #[.int .i64 (rd_T39 l (m : Int)).f0.f0, .int .i64 (rd_T39 l (m : Int)).f0.f1, .int .i64 (rd_T39 l (m : Int)).f0.f2, .int .i64 (rd_T39 l (m : Int)).f0.f3, .bool (rd_T39 l (m : Int)).f0.f4, .int .i64 (rd_T39 l (m : Int)).f1, .int .i64 (rd_T39 l (m : Int)).f2]) := by rw [ha]; exact putSel_on (e := (17, 84, .agg #[.int .i64 (rd_T39 l (m : Int)).f0.f0, .int .i64 (rd_T39 l (m : Int)).f0.f1, .int .i64 (rd_T39 l (m : Int)).f0.f2, .int .i64 (rd_T39 l (m : Int)).f0.f3, .bool (rd_T39 l (m : Int)).f0.f4, .int .i64 (rd_T39 l (m : Int)).f1, .int .i64 (rd_T39 l (m : Int)).f2])) 17 rfl rfl (hon 17 (by kernel_rfl)) rfl
                      replace ha := Aside0.mk ha
                      have HBr := Aside0.mk Q_HBr
                      refine goes_ Try.func14 (by kernel_rfl) rfl #[.slice (some ad) l.length c, .agg #[.int .i64 (rd_T39 l (m : Int)).f0.f0, .int .i64 (rd_T39 l (m : Int)).f0.f1, .int .i64 (rd_T39 l (m : Int)).f0.f2, .int .i64 (rd_T39 l (m : Int)).f0.f3, .bool (rd_T39 l (m : Int)).f0.f4, .int .i64 (rd_T39 l (m : Int)).f1, .int .i64 (rd_T39 l (m : Int)).f2]] (by rfl) rfl rfl (by first | (simp only [List.map_toArray, List.map_cons, List.map_nil, Act.eval, Array.getD_eq_getD_getElem?, Option.getD_some, e80, e84]; done) | (simp only [List.map_toArray, List.map_cons, List.map_nil, Act.eval, Array.getD_eq_getD_getElem?, Option.getD_some, e80, e84]; rfl)) ?_
                      refine (HHL.out _ HBr.out).mono ?_
                      rintro e w1 ⟨rfl, hb1⟩
                      refine ⟨_, rfl, ?_⟩
                      refine hK.out _ _ ⟨(by rw [ha.out]; exact putSel_upk 18 hb_ rfl rfl rfl), below_step HBr.out hb1⟩
                    refine steps_cons ?_ ?_
                    · rintro b a w' ⟨ha, Q_HBr⟩ hb_ hon hoff
                      refine ⟨_, rfl, fun K hK => ?_⟩
                      have e79 : a.tmps[79]? = some (.int .i64 z) := by rw [ha]; exact putSel_on (e := (12, 79, .int .i64 z)) 12 rfl rfl (hon 12 (by kernel_rfl)) rfl
                      have e85 : a.tmps[85]? = some (.int .i64 z) := by rw [ha]; exact putSel_on (e := (18, 85, .int .i64 z)) 18 rfl rfl (hon 18 (by kernel_rfl)) rfl
                      replace ha := Aside0.mk ha
                      have HBr := Aside0.mk Q_HBr
                      refine value_ (w1 := w') (v := .bool false) (by rfl) rfl ?_ ?_
                      · go_simp
                        (try simp only [i64_w])
                        try rfl
                      refine hK.out _ _ ⟨(by rw [ha.out]; exact putSel_upk 19 hb_ rfl rfl rfl), Q_HBr⟩
                    refine steps_cons ?_ ?_
                    · rintro b a w' ⟨ha, Q_HBr⟩ hb_ hon hoff
                      refine ⟨_, rfl, fun K hK => ?_⟩
                      have e86 : a.tmps[86]? = some (.bool false) := by rw [ha]; exact putSel_on (e := (19, 86, .bool false)) 19 rfl rfl (hon 19 (by kernel_rfl)) rfl
                      replace ha := Aside0.mk ha
                      have HBr := Aside0.mk Q_HBr
                      refine value_ (w1 := w') (v := .bool false) (by rfl) rfl ?_ ?_
                      · go_simp
                        (try simp only [i64_w])
                        try rfl
                      refine hK.out _ _ ⟨(by rw [ha.out]; exact putSel_upk 20 hb_ rfl rfl rfl), Q_HBr⟩
                    refine steps_cons ?_ ?_
                    · rintro b a w' ⟨ha, Q_HBr⟩ hb_ hon hoff
                      refine ⟨_, rfl, fun K hK => ?_⟩
                      have e6 : a.tmps[6]? = some (.slice B1 (l.filter fun x => !p x).length n1) := by rw [ha]; exact (putSel_off rfl).trans rfl
                      have e87 : a.tmps[87]? = some (.bool false) := by rw [ha]; exact putSel_on (e := (20, 87, .bool false)) 20 rfl rfl (hon 20 (by kernel_rfl)) rfl
                      replace ha := Aside0.mk ha
                      have HBr := Aside0.mk Q_HBr
                      refine value_ (w1 := w') (v := .slice B1 (l.filter fun x => !p x).length n1) (wanted_on rfl rfl rfl (e87.trans (by first | rfl | (simp [*]; done)))) rfl ?_ ?_
                      · go_simp
                        (try simp only [i64_w])
                        try rfl
                      refine hK.out _ _ ⟨(by rw [ha.out]; exact putSel_upk 21 hb_ rfl rfl rfl), Q_HBr⟩
                    refine steps_cons ?_ ?_
                    · rintro b a w' ⟨ha, Q_HBr⟩ hb_ hon hoff
                      refine ⟨_, rfl, fun K hK => ?_⟩
                      have e0 : a.tmps[0]? = some (.slice (some ad) l.length c) := by rw [ha]; exact (putSel_off rfl).trans rfl
                      have e87 : a.tmps[87]? = some (.bool false) := by rw [ha]; exact putSel_on (e := (20, 87, .bool false)) 20 rfl rfl (hon 20 (by kernel_rfl)) rfl
                      replace ha := Aside0.mk ha
                      have HBr := Aside0.mk Q_HBr
                      refine value_ (w1 := w') (v := .slice (some ad) l.length c) (wanted_on rfl rfl rfl (e87.trans (by first | rfl | (simp [*]; done)))) rfl ?_ ?_
                      · go_simp
                        (try simp only [i64_w])
                        try rfl
                      refine hK.out _ _ ⟨(by rw [ha.out]; exact putSel_upk 22 hb_ rfl rfl rfl), Q_HBr⟩
                    refine steps_cons ?_ ?_
                    · rintro b a w' ⟨ha, Q_HBr⟩ hb_ hon hoff
                      refine ⟨_, rfl, fun K hK => ?_⟩
                      have e8 : a.tmps[8]? = some (.int .i64 (m : Int)) := by rw [ha]; exact (putSel_off rfl).trans rfl
                      have e87 : a.tmps[87]? = some (.bool false) := by rw [ha]; exact putSel_on (e := (20, 87, .bool false)) 20 rfl rfl (hon 20 (by kernel_rfl)) rfl
                      replace ha := Aside0.mk ha
                      have HBr := Aside0.mk Q_HBr
                      refine value_ (w1 := w') (v := .int .i64 (m : Int)) (wanted_on rfl rfl rfl (e87.trans (by first | rfl | (simp [*]; done)))) rfl ?_ ?_
                      · go_simp
                        (try simp only [i64_w])
                        try rfl
                      refine hK.out _ _ ⟨(by rw [ha.out]; exact putSel_upk 23 hb_ rfl rfl rfl), Q_HBr⟩
                    refine steps_cons ?_ ?_
                    · rintro b a w' ⟨ha, Q_HBr⟩ hb_ hon hoff
                      refine ⟨_, rfl, fun K hK => ?_⟩
                      have e89 : a.tmps[89]? = some (.slice (some ad) l.length c) := by rw [ha]; exact putSel_on (e := (22, 89, .slice (some ad) l.length c)) 22 rfl rfl (hon 22 (by kernel_rfl)) rfl
                      have e90 : a.tmps[90]? = some (.int .i64 (m : Int)) := by rw [ha]; exact putSel_on (e := (23, 90, .int .i64 (m : Int))) 23 rfl rfl (hon 23 (by kernel_rfl)) rfl
                      have e87 : a.tmps[87]? = some (.bool false) := by rw [ha]; exact putSel_on (e := (20, 87, .bool false)) 20 rfl rfl (hon 20 (by kernel_rfl)) rfl
                      replace ha := Aside0.mk ha
                      have HBr := Aside0.mk Q_HBr
                      refine value_ (w1 := w') (v := .pointer (some (ad.add (m * 7)))) (wanted_on rfl rfl rfl (e87.trans (by first | rfl | (simp [*]; done)))) rfl ?_ ?_
                      · go_simp
                        (try simp only [i64_w])
                        try rfl
                      refine hK.out _ _ ⟨(by rw [ha.out]; exact putSel_upk 24 hb_ rfl rfl rfl), Q_HBr⟩
                    refine steps_cons ?_ ?_
                    · rintro b a w' ⟨ha, Q_HBr⟩ hb_ hon hoff
                      refine ⟨_, rfl, fun K hK => ?_⟩
                      have e91 : a.tmps[91]? = some (.pointer (some (ad.add (m * 7)))) := by rw [ha]; exact putSel_on (e := (24, 91, .pointer (some (ad.add (m * 7))))) 24 rfl rfl (hon 24 (by kernel_rfl)) rfl
                      have e87 : a.tmps[87]? = some (.bool false) := by rw [ha]; exact putSel_on (e := (20, 87, .bool false)) 20 rfl rfl (hon 20 (by kernel_rfl)) rfl
                      replace ha := Aside0.mk ha
                      have HBr := Aside0.mk Q_HBr
                      have z0 := pw_cell_below HBr.out q0
                      have z1 := pw_cell_below HBr.out q1
                      have z2 := pw_cell_below HBr.out q2
                      have z3 := pw_cell_below HBr.out q3
                      have z4 := pw_cell_below HBr.out q4
                      have z5 := pw_cell_below HBr.out q5
                      have z6 := pw_cell_below HBr.out q6
                      refine value_ (w1 := w') (v := .agg #[.int .i64 (rd_T39 l (m : Int)).f0.f0, .int .i64 (rd_T39 l (m : Int)).f0.f1, .int .i64 (rd_T39 l (m : Int)).f0.f2, .int .i64 (rd_T39 l (m : Int)).f0.f3, .bool (rd_T39 l (m : Int)).f0.f4, .int .i64 (rd_T39 l (m : Int)).f1, .int .i64 (rd_T39 l (m : Int)).f2]) (wanted_on rfl rfl rfl (e87.trans (by first | rfl | (simp [*]; done)))) rfl ?_ ?_
                      · go_simp
                        (try simp only [i64_w])
                        try rfl
                      refine hK.out _ _ ⟨(by rw [ha.out]; exact putSel_upk 25 hb_ rfl rfl rfl), Q_HBr⟩
                    refine steps_cons ?_ ?_
                    · rintro b a w' ⟨ha, Q_HBr⟩ hb_ hon hoff
                      refine ⟨_, rfl, fun K hK => ?_⟩
                      have e88 : a.tmps[88]? = some (.slice B1 (l.filter fun x => !p x).length n1) := by rw [ha]; exact putSel_on (e := (21, 88, .slice B1 (l.filter fun x => !p x).length n1)) 21 rfl rfl (hon 21 (by kernel_rfl)) rfl
                      have e92 : a.tmps[92]? = some (.agg #[.int .i64 (rd_T39 l (m : Int)).f0.f0, .int .i64 (rd_T39 l (m : Int)).f0.f1, .int .i64 (rd_T39 l (m : Int)).f0.f2, .int .i64 (rd_T39 l (m : Int)).f0.f3, .bool (rd_T39 l (m : Int)).f0.f4, .int .i64 (rd_T39 l (m : Int)).f1, .int .i64 (rd_T39 l (m : Int)).f2]) := by rw [ha]; exact putSel_on (e := (25, 92, .agg #[.int .i64 (rd_T39 l (m : Int)).f0.f0, .int .i64 (rd_T39 l (m : Int)).f0.f1, .int .i64 (rd_T39 l (m : Int)).f0.f2, .int .i64 (rd_T39 l (m : Int)).f0.f3, .bool (rd_T39 l (m : Int)).f0.f4, .int .i64 (rd_T39 l (m : Int)).f1, .int .i64 (rd_T39 l (m : Int)).f2])) 25 rfl rfl (hon 25 (by kernel_rfl)) rfl
                      have e87 : a.tmps[87]? = some (.bool false) := by rw [ha]; exact putSel_on (e := (20, 87, .bool false)) 20 rfl rfl (hon 20 (by kernel_rfl)) rfl
                      replace ha := Aside0.mk ha
                      have HBr := Aside0.mk Q_HBr
                      refine goes_ Try.func14 (by kernel_rfl) rfl #[.slice B1 (l.filter fun x => !p x).length n1, .agg #[.int .i64 (rd_T39 l (m : Int)).f0.f0, .int .i64 (rd_T39 l (m : Int)).f0.f1, .int .i64 (rd_T39 l (m : Int)).f0.f2, .int .i64 (rd_T39 l (m : Int)).f0.f3, .bool (rd_T39 l (m : Int)).f0.f4, .int .i64 (rd_T39 l (m : Int)).f1, .int .i64 (rd_T39 l (m : Int)).f2]] (wanted_on rfl rfl rfl (e87.trans (by first | rfl | (simp [*]; done)))) rfl rfl (by first | (simp only [List.map_toArray, List.map_cons, List.map_nil, Act.eval, Array.getD_eq_getD_getElem?, Option.getD_some, e88, e92, e87]; done) | (simp only [List.map_toArray, List.map_cons, List.map_nil, Act.eval, Array.getD_eq_getD_getElem?, Option.getD_some, e88, e92, e87]; rfl)) ?_
                      refine (HH1.out _ HBr.out).mono ?_
                      rintro e w1 ⟨rfl, hb1⟩
                      refine ⟨_, rfl, ?_⟩
                      refine hK.out _ _ ⟨(by rw [ha.out]; exact putSel_upk 26 hb_ rfl rfl rfl), below_step HBr.out hb1⟩
                    refine steps_cons ?_ ?_
                    · rintro b a w' ⟨ha, Q_HBr⟩ hb_ hon hoff
                      refine ⟨_, rfl, fun K hK => ?_⟩
                      have e93 : a.tmps[93]? = some (.int .i64 z) := by rw [ha]; exact putSel_on (e := (26, 93, .int .i64 z)) 26 rfl rfl (hon 26 (by kernel_rfl)) rfl
                      have e87 : a.tmps[87]? = some (.bool false) := by rw [ha]; exact putSel_on (e := (20, 87, .bool false)) 20 rfl rfl (hon 20 (by kernel_rfl)) rfl
                      replace ha := Aside0.mk ha
                      have HBr := Aside0.mk Q_HBr
                      refine value_ (w1 := w') (v := .bool true) (wanted_on rfl rfl rfl (e87.trans (by first | rfl | (simp [*]; done)))) rfl ?_ ?_
                      · go_simp
                        (try simp only [i64_w])
                        try rfl
                      refine hK.out _ _ ⟨(by rw [ha.out]; exact putSel_upk 27 hb_ rfl rfl rfl), Q_HBr⟩
                    refine steps_cons ?_ ?_
                    · rintro b a w' ⟨ha, Q_HBr⟩ hb_ hon hoff
                      refine ⟨_, rfl, fun K hK => ?_⟩
                      have e94 : a.tmps[94]? = some (.bool true) := by rw [ha]; exact putSel_on (e := (27, 94, .bool true)) 27 rfl rfl (hon 27 (by kernel_rfl)) rfl
                      have e87 : a.tmps[87]? = some (.bool false) := by rw [ha]; exact putSel_on (e := (20, 87, .bool false)) 20 rfl rfl (hon 20 (by kernel_rfl)) rfl
                      replace ha := Aside0.mk ha
                      have HBr := Aside0.mk Q_HBr
                      refine value_ (w1 := w') (v := .bool true) (wanted_on rfl rfl rfl (e87.trans (by first | rfl | (simp [*]; done)))) rfl ?_ ?_
                      · go_simp
                        (try simp only [i64_w])
                        try rfl
                      refine hK.out _ _ ⟨(by rw [ha.out]; exact putSel_upk 28 hb_ rfl rfl rfl), Q_HBr⟩
                    refine steps_cons ?_ ?_
                    · rintro b a w' ⟨ha, Q_HBr⟩ hb_ hon hoff
                      refine ⟨_, rfl, fun K hK => ?_⟩
                      have e7 : a.tmps[7]? = some (.slice B2 (l.filter p).length n2) := by rw [ha]; exact (putSel_off rfl).trans rfl
                      have e95 : a.tmps[95]? = some (.bool true) := by rw [ha]; exact putSel_on (e := (28, 95, .bool true)) 28 rfl rfl (hon 28 (by kernel_rfl)) rfl
                      replace ha := Aside0.mk ha
                      have HBr := Aside0.mk Q_HBr
                      refine value_ (w1 := w') (v := .slice B2 (l.filter p).length n2) (wanted_on rfl rfl rfl (e95.trans (by first | rfl | (simp [*]; done)))) rfl ?_ ?_
                      · go_simp
                        (try simp only [i64_w])
                        try rfl
                      refine hK.out _ _ ⟨(by rw [ha.out]; exact putSel_upk 29 hb_ rfl rfl rfl), Q_HBr⟩
                    refine steps_cons ?_ ?_
                    · rintro b a w' ⟨ha, Q_HBr⟩ hb_ hon hoff
                      refine ⟨_, rfl, fun K hK => ?_⟩
                      have e0 : a.tmps[0]? = some (.slice (some ad) l.length c) := by rw [ha]; exact (putSel_off rfl).trans rfl
                      have e95 : a.tmps[95]? = some (.bool true) := by rw [ha]; exact putSel_on (e := (28, 95, .bool true)) 28 rfl rfl (hon 28 (by kernel_rfl)) rfl
                      replace ha := Aside0.mk ha
                      have HBr := Aside0.mk Q_HBr
                      refine value_ (w1 := w') (v := .slice (some ad) l.length c) (wanted_on rfl rfl rfl (e95.trans (by first | rfl | (simp [*]; done)))) rfl ?_ ?_
                      · go_simp
                        (try simp only [i64_w])
                        try rfl
                      refine hK.out _ _ ⟨(by rw [ha.out]; exact putSel_upk 30 hb_ rfl rfl rfl), Q_HBr⟩
                    refine steps_cons ?_ ?_
                    · rintro b a w' ⟨ha, Q_HBr⟩ hb_ hon hoff
                      refine ⟨_, rfl, fun K hK => ?_⟩
                      have e8 : a.tmps[8]? = some (.int .i64 (m : Int)) := by rw [ha]; exact (putSel_off rfl).trans rfl
                      have e95 : a.tmps[95]? = some (.bool true) := by rw [ha]; exact putSel_on (e := (28, 95, .bool true)) 28 rfl rfl (hon 28 (by kernel_rfl)) rfl
                      replace ha := Aside0.mk ha
                      have HBr := Aside0.mk Q_HBr
                      refine value_ (w1 := w') (v := .int .i64 (m : Int)) (wanted_on rfl rfl rfl (e95.trans (by first | rfl | (simp [*]; done)))) rfl ?_ ?_
                      · go_simp
                        (try simp only [i64_w])
                        try rfl
                      refine hK.out _ _ ⟨(by rw [ha.out]; exact putSel_upk 31 hb_ rfl rfl rfl), Q_HBr⟩
                    refine steps_cons ?_ ?_
                    · rintro b a w' ⟨ha, Q_HBr⟩ hb_ hon hoff
                      refine ⟨_, rfl, fun K hK => ?_⟩
                      have e97 : a.tmps[97]? = some (.slice (some ad) l.length c) := by rw [ha]; exact putSel_on (e := (30, 97, .slice (some ad) l.length c)) 30 rfl rfl (hon 30 (by kernel_rfl)) rfl
                      have e98 : a.tmps[98]? = some (.int .i64 (m : Int)) := by rw [ha]; exact putSel_on (e := (31, 98, .int .i64 (m : Int))) 31 rfl rfl (hon 31 (by kernel_rfl)) rfl
                      have e95 : a.tmps[95]? = some (.bool true) := by rw [ha]; exact putSel_on (e := (28, 95, .bool true)) 28 rfl rfl (hon 28 (by kernel_rfl)) rfl
                      replace ha := Aside0.mk ha
                      have HBr := Aside0.mk Q_HBr
                      refine value_ (w1 := w') (v := .pointer (some (ad.add (m * 7)))) (wanted_on rfl rfl rfl (e95.trans (by first | rfl | (simp [*]; done)))) rfl ?_ ?_
                      · go_simp
                        (try simp only [i64_w])
                        try rfl
                      refine hK.out _ _ ⟨(by rw [ha.out]; exact putSel_upk 32 hb_ rfl rfl rfl), Q_HBr⟩
                    refine steps_cons ?_ ?_
                    · rintro b a w' ⟨ha, Q_HBr⟩ hb_ hon hoff
                      refine ⟨_, rfl, fun K hK => ?_⟩
                      have e99 : a.tmps[99]? = some (.pointer (some (ad.add (m * 7)))) := by rw [ha]; exact putSel_on (e := (32, 99, .pointer (some (ad.add (m * 7))))) 32 rfl rfl (hon 32 (by kernel_rfl)) rfl
                      have e95 : a.tmps[95]? = some (.bool true) := by rw [ha]; exact putSel_on (e := (28, 95, .bool true)) 28 rfl rfl (hon 28 (by kernel_rfl)) rfl
                      replace ha := Aside0.mk ha
                      have HBr := Aside0.mk Q_HBr
                      have z0 := pw_cell_below HBr.out q0
                      have z1 := pw_cell_below HBr.out q1
                      have z2 := pw_cell_below HBr.out q2
                      have z3 := pw_cell_below HBr.out q3
                      have z4 := pw_cell_below HBr.out q4
                      have z5 := pw_cell_below HBr.out q5
                      have z6 := pw_cell_below HBr.out q6
                      refine value_ (w1 := w') (v := .agg #[.int .i64 (rd_T39 l (m : Int)).f0.f0, .int .i64 (rd_T39 l (m : Int)).f0.f1, .int .i64 (rd_T39 l (m : Int)).f0.f2, .int .i64 (rd_T39 l (m : Int)).f0.f3, .bool (rd_T39 l (m : Int)).f0.f4, .int .i64 (rd_T39 l (m : Int)).f1, .int .i64 (rd_T39 l (m : Int)).f2]) (wanted_on rfl rfl rfl (e95.trans (by first | rfl | (simp [*]; done)))) rfl ?_ ?_
                      · go_simp
                        (try simp only [i64_w])
                        try rfl
                      refine hK.out _ _ ⟨(by rw [ha.out]; exact putSel_upk 33 hb_ rfl rfl rfl), Q_HBr⟩
                    refine steps_cons ?_ ?_
                    · rintro b a w' ⟨ha, Q_HBr⟩ hb_ hon hoff
                      refine ⟨_, rfl, fun K hK => ?_⟩
                      have e96 : a.tmps[96]? = some (.slice B2 (l.filter p).length n2) := by rw [ha]; exact putSel_on (e := (29, 96, .slice B2 (l.filter p).length n2)) 29 rfl rfl (hon 29 (by kernel_rfl)) rfl
                      have e100 : a.tmps[100]? = some (.agg #[.int .i64 (rd_T39 l (m : Int)).f0.f0, .int .i64 (rd_T39 l (m : Int)).f0.f1, .int .i64 (rd_T39 l (m : Int)).f0.f2, .int .i64 (rd_T39 l (m : Int)).f0.f3, .bool (rd_T39 l (m : Int)).f0.f4, .int .i64 (rd_T39 l (m : Int)).f1, .int .i64 (rd_T39 l (m : Int)).f2]) := by rw [ha]; exact putSel_on (e := (33, 100, .agg #[.int .i64 (rd_T39 l (m : Int)).f0.f0, .int .i64 (rd_T39 l (m : Int)).f0.f1, .int .i64 (rd_T39 l (m : Int)).f0.f2, .int .i64 (rd_T39 l (m : Int)).f0.f3, .bool (rd_T39 l (m : Int)).f0.f4, .int .i64 (rd_T39 l (m : Int)).f1, .int .i64 (rd_T39 l (m : Int)).f2])) 33 rfl rfl (hon 33 (by kernel_rfl)) rfl
                      have e95 : a.tmps[95]? = some (.bool true) := by rw [ha]; exact putSel_on (e := (28, 95, .bool true)) 28 rfl rfl (hon 28 (by kernel_rfl)) rfl
                      replace ha := Aside0.mk ha
                      have HBr := Aside0.mk Q_HBr
                      refine goes_ Try.func14 (by kernel_rfl) rfl #[.slice B2 (l.filter p).length n2, .agg #[.int .i64 (rd_T39 l (m : Int)).f0.f0, .int .i64 (rd_T39 l (m : Int)).f0.f1, .int .i64 (rd_T39 l (m : Int)).f0.f2, .int .i64 (rd_T39 l (m : Int)).f0.f3, .bool (rd_T39 l (m : Int)).f0.f4, .int .i64 (rd_T39 l (m : Int)).f1, .int .i64 (rd_T39 l (m : Int)).f2]] (wanted_on rfl rfl rfl (e95.trans (by first | rfl | (simp [*]; done)))) rfl rfl (by first | (simp only [List.map_toArray, List.map_cons, List.map_nil, Act.eval, Array.getD_eq_getD_getElem?, Option.getD_some, e96, e100, e95]; done) | (simp only [List.map_toArray, List.map_cons, List.map_nil, Act.eval, Array.getD_eq_getD_getElem?, Option.getD_some, e96, e100, e95]; rfl)) ?_
                      refine (HH2.out _ HBr.out).mono ?_
                      rintro e w1 ⟨rfl, hb1⟩
                      refine ⟨_, rfl, ?_⟩
                      refine hK.out _ _ ⟨(by rw [ha.out]; exact putSel_upk 34 hb_ rfl rfl rfl), below_step HBr.out hb1⟩
                    refine steps_cons ?_ ?_
                    · rintro b a w' ⟨ha, Q_HBr⟩ hb_ hon hoff
                      refine ⟨_, rfl, fun K hK => ?_⟩
                      have e101 : a.tmps[101]? = some (.int .i64 0) := by rw [ha]; exact putSel_on (e := (34, 101, .int .i64 0)) 34 rfl rfl (hon 34 (by kernel_rfl)) rfl
                      have e95 : a.tmps[95]? = some (.bool true) := by rw [ha]; exact putSel_on (e := (28, 95, .bool true)) 28 rfl rfl (hon 28 (by kernel_rfl)) rfl
                      replace ha := Aside0.mk ha
                      have HBr := Aside0.mk Q_HBr
                      refine value_ (w1 := w') (v := .bool false) (wanted_on rfl rfl rfl (e95.trans (by first | rfl | (simp [*]; done)))) rfl ?_ ?_
                      · go_simp
                        (try simp only [i64_w])
                        try rfl
                      refine hK.out _ _ ⟨(by rw [ha.out]; exact putSel_upk 35 hb_ rfl rfl rfl), Q_HBr⟩
                    refine steps_cons ?_ ?_
                    · rintro b a w' ⟨ha, Q_HBr⟩ hb_ hon hoff
                      refine ⟨_, rfl, fun K hK => ?_⟩
                      have e95 : a.tmps[95]? = some (.bool true) := by rw [ha]; exact putSel_on (e := (28, 95, .bool true)) 28 rfl rfl (hon 28 (by kernel_rfl)) rfl
                      have e102 : a.tmps[102]? = some (.bool false) := by rw [ha]; exact putSel_on (e := (35, 102, .bool false)) 35 rfl rfl (hon 35 (by kernel_rfl)) rfl
                      have e87 : a.tmps[87]? = some (.bool false) := by rw [ha]; exact putSel_on (e := (20, 87, .bool false)) 20 rfl rfl (hon 20 (by kernel_rfl)) rfl
                      replace ha := Aside0.mk ha
                      have HBr := Aside0.mk Q_HBr
                      refine value_ (w1 := w') (v := .bool false) (wanted_on rfl rfl rfl (e87.trans (by first | rfl | (simp [*]; done)))) rfl ?_ ?_
                      · go_simp
                        (try simp only [i64_w])
                        try rfl
                      refine hK.out _ _ ⟨(by rw [ha.out]; exact putSel_upk 36 hb_ rfl rfl rfl), Q_HBr⟩
                    refine steps_cons ?_ ?_
                    · rintro b a w' ⟨ha, Q_HBr⟩ hb_ hon hoff
                      refine ⟨_, rfl, fun K hK => ?_⟩
                      have e87 : a.tmps[87]? = some (.bool false) := by rw [ha]; exact putSel_on (e := (20, 87, .bool false)) 20 rfl rfl (hon 20 (by kernel_rfl)) rfl
                      have e103 : a.tmps[103]? = some (.bool false) := by rw [ha]; exact putSel_on (e := (36, 103, .bool false)) 36 rfl rfl (hon 36 (by kernel_rfl)) rfl
                      replace ha := Aside0.mk ha
                      have HBr := Aside0.mk Q_HBr
                      refine value_ (w1 := w') (v := .bool false) (by rfl) rfl ?_ ?_
                      · go_simp
                        (try simp only [i64_w])
                        try rfl
                      refine hK.out _ _ ⟨(by rw [ha.out]; exact putSel_upk 37 hb_ rfl rfl rfl), Q_HBr⟩
                    exact steps_nil
                  · rintro b a w' hall ⟨ha, Q_HBr⟩
                    clear HBr
                    have hb0_ := hall 0 (by kernel_rfl)
                    have hb1_ := hall 1 (by kernel_rfl)
                    have hb2_ := hall 2 (by kernel_rfl)
                    have hb3_ := hall 3 (by kernel_rfl)
                    have hb4_ := hall 4 (by kernel_rfl)
                    have hb5_ := hall 5 (by kernel_rfl)
                    have hb6_ := hall 6 (by kernel_rfl)
                    have hb7_ := hall 7 (by kernel_rfl)
                    have hb8_ := hall 8 (by kernel_rfl)
                    have hb9_ := hall 9 (by kernel_rfl)
                    have hb10_ := hall 10 (by kernel_rfl)
                    have hb11_ := hall 11 (by kernel_rfl)
                    have hb12_ := hall 12 (by kernel_rfl)
                    have hb13_ := hall 13 (by kernel_rfl)
                    have hb14_ := hall 14 (by kernel_rfl)
                    have hb15_ := hall 15 (by kernel_rfl)
                    have hb16_ := hall 16 (by kernel_rfl)
                    have hb17_ := hall 17 (by kernel_rfl)
                    have hb18_ := hall 18 (by kernel_rfl)
                    have hb19_ := hall 19 (by kernel_rfl)
                    have hb20_ := hall 20 (by kernel_rfl)
                    have hb21_ := hall 21 (by kernel_rfl)
                    have hb22_ := hall 22 (by kernel_rfl)
                    have hb23_ := hall 23 (by kernel_rfl)
                    have hb24_ := hall 24 (by kernel_rfl)
                    have hb25_ := hall 25 (by kernel_rfl)
                    have hb26_ := hall 26 (by kernel_rfl)
                    have hb27_ := hall 27 (by kernel_rfl)
                    have hb28_ := hall 28 (by kernel_rfl)
                    have hb29_ := hall 29 (by kernel_rfl)
                    have hb30_ := hall 30 (by kernel_rfl)
                    have hb31_ := hall 31 (by kernel_rfl)
                    have hb32_ := hall 32 (by kernel_rfl)
                    have hb33_ := hall 33 (by kernel_rfl)
                    have hb34_ := hall 34 (by kernel_rfl)
                    have hb35_ := hall 35 (by kernel_rfl)
                    have hb36_ := hall 36 (by kernel_rfl)
                    have hb37_ := hall 37 (by kernel_rfl)
                    subst ha
                    simp only [putSel, hb0_, hb1_, hb2_, hb3_, hb4_, hb5_, hb6_, hb7_, hb8_, hb9_, hb10_, hb11_, hb12_, hb13_, hb14_, hb15_, hb16_, hb17_, hb18_, hb19_, hb20_, hb21_, hb22_, hb23_, hb24_, hb25_, hb26_, hb27_, hb28_, hb29_, hb30_, hb31_, hb32_, hb33_, hb34_, hb35_, hb36_, hb37_, if_true, Act.put, List.setIfInBounds_toArray, List.set_cons_zero, List.set_cons_succ]
                    have HBr := Aside0.mk Q_HBr
                    clear Q_HBr
                    clear hall hb0_ hb1_ hb2_ hb3_ hb4_ hb5_ hb6_ hb7_ hb8_ hb9_ hb10_ hb11_ hb12_ hb13_ hb14_ hb15_ hb16_ hb17_ hb18_ hb19_ hb20_ hb21_ hb22_ hb23_ hb24_ hb25_ hb26_ hb27_ hb28_ hb29_ hb30_ hb31_ hb32_ hb33_ hb34_ hb35_ hb36_ hb37_
                    go_wp2
                    go_roundw
                    case rel => first | exact ⟨m + 1, by omega, by go_num, below_step hbr HBr.out⟩ | ((repeat apply Exists.intro); exact ⟨⟨m + 1, by omega, by go_num, below_step hbr HBr.out⟩, rfl⟩)
                    case measure => simp [intOf]; omega
                · go_wp2
                  refine start_ (n := 38) (S := fun w' => True) (ds := []) #[false, false, false, false, false, false, false, false, false, false, false, false, false, false, false, false, false, false, false, false, false, false, false, false, false, false, false, false, false, false, false, false, false, false, false, false, false, false] (by kernel_rfl) rfl rfl trivial (fun hHeld => ?_)
                  refine with_tabW parts.tab21 parts.bits21 (fun HT_ HW_ => ?_)
                  have HBr := Aside0.mk (below_drew1 (Below.refl wr.heap.size wr))
                  refine inv_at [0, 1, 2, 3, 4, 5, 6, 7, 8, 9, 10, 11, 12, 13, 14, 15, 16, 17, 18, 19, 20, 21, 22, 23, 24, 25, 26, 27, 28, 29, 30, 31, 32, 33, 34, 35, 36, 37] (fun a0_ b a w' => a = putSel a0_ b [(0, 67, .slice B1 (l.filter fun x => !p x).length n1), (1, 68, .slice (some ad) l.length c), (2, 69, .int .i64 (m : Int)), (3, 70, .pointer (some (ad.add (m * 7)))), (4, 71, .agg #[.int .i64 (rd_T39 l (m : Int)).f0.f0, .int .i64 (rd_T39 l (m : Int)).f0.f1, .int .i64 (rd_T39 l (m : Int)).f0.f2, .int .i64 (rd_T39 l (m : Int)).f0.f3, .bool (rd_T39 l (m : Int)).f0.f4, .int .i64 (rd_T39 l (m : Int)).f1, .int .i64 (rd_T39 l (m : Int)).f2]), (5, 72, .int .i64 z), (6, 73, .slice B2 (l.filter p).length n2), (7, 74, .slice (some ad) l.length c), (8, 75, .int .i64 (m : Int)), (9, 76, .pointer (some (ad.add (m * 7)))), (10, 77, .agg #[.int .i64 (rd_T39 l (m : Int)).f0.f0, .int .i64 (rd_T39 l (m : Int)).f0.f1, .int .i64 (rd_T39 l (m : Int)).f0.f2, .int .i64 (rd_T39 l (m : Int)).f0.f3, .bool (rd_T39 l (m : Int)).f0.f4, .int .i64 (rd_T39 l (m : Int)).f1, .int .i64 (rd_T39 l (m : Int)).f2]), (11, 78, .int .i64 0), (12, 79, .int .i64 z), (13, 80, .slice (some ad) l.length c), (14, 81, .slice (some ad) l.length c), (15, 82, .int .i64 (m : Int)), (16, 83, .pointer (some (ad.add (m * 7)))), (17, 84, .agg #[.int .i64 (rd_T39 l (m : Int)).f0.f0, .int .i64 (rd_T39 l (m : Int)).f0.f1, .int .i64 (rd_T39 l (m : Int)).f0.f2, .int .i64 (rd_T39 l (m : Int)).f0.f3, .bool (rd_T39 l (m : Int)).f0.f4, .int .i64 (rd_T39 l (m : Int)).f1, .int .i64 (rd_T39 l (m : Int)).f2]), (18, 85, .int .i64 z), (19, 86, .bool false), (20, 87, .bool false), (21, 88, .slice B1 (l.filter fun x => !p x).length n1), (22, 89, .slice (some ad) l.length c), (23, 90, .int .i64 (m : Int)), (24, 91, .pointer (some (ad.add (m * 7)))), (25, 92, .agg #[.int .i64 (rd_T39 l (m : Int)).f0.f0, .int .i64 (rd_T39 l (m : Int)).f0.f1, .int .i64 (rd_T39 l (m : Int)).f0.f2, .int .i64 (rd_T39 l (m : Int)).f0.f3, .bool (rd_T39 l (m : Int)).f0.f4, .int .i64 (rd_T39 l (m : Int)).f1, .int .i64 (rd_T39 l (m : Int)).f2]), (26, 93, .int .i64 z), (27, 94, .bool false), (28, 95, .bool false), (29, 96, undef), (30, 97, undef), (31, 98, undef), (32, 99, undef), (33, 100, undef), (34, 101, undef), (35, 102, undef), (36, 103, .bool false), (37, 104, .bool false)] ∧ (Below wr.heap.size wr w')) HT_.out HW_.out (by kernel_rfl) (by kernel_rfl) ?_ ?_ ?_
                  · exact ⟨by simp only [putSel, Bool.false_eq_true, if_false], HBr.out⟩
                  · skip
                    clear HBr
                    refine steps_cons ?_ ?_
                    · rintro b a w' ⟨ha, Q_HBr⟩ hb_ hon hoff
                      refine ⟨_, rfl, fun K hK => ?_⟩
                      have e6 : a.tmps[6]? = some (.slice B1 (l.filter fun x => !p x).length n1) := by rw [ha]; exact (putSel_off rfl).trans rfl
                      replace ha := Aside0.mk ha
                      have HBr := Aside0.mk Q_HBr
                      refine value_ (w1 := w') (v := .slice B1 (l.filter fun x => !p x).length n1) (by rfl) rfl ?_ ?_
                      · go_simp
                        (try simp only [i64_w])
                        try rfl
                      refine hK.out _ _ ⟨(by rw [ha.out]; exact putSel_upk 0 hb_ rfl rfl rfl), Q_HBr⟩
                    refine steps_cons ?_ ?_
                    · rintro b a w' ⟨ha, Q_HBr⟩ hb_ hon hoff
                      refine ⟨_, rfl, fun K hK => ?_⟩
                      have e0 : a.tmps[0]? = some (.slice (some ad) l.length c) := by rw [ha]; exact (putSel_off rfl).trans rfl
                      replace ha := Aside0.mk ha
                      have HBr := Aside0.mk Q_HBr
                      refine value_ (w1 := w') (v := .slice (some ad) l.length c) (by rfl) rfl ?_ ?_
                      · go_simp
                        (try simp only [i64_w])
                        try rfl
                      refine hK.out _ _ ⟨(by rw [ha.out]; exact putSel_upk 1 hb_ rfl rfl rfl), Q_HBr⟩
                    refine steps_cons ?_ ?_
                    · rintro b a w' ⟨ha, Q_HBr⟩ hb_ hon hoff
                      refine ⟨_, rfl, fun K hK => ?_⟩
                      have e8 : a.tmps[8]? = some (.int .i64 (m : Int)) := by rw [ha]; exact (putSel_off rfl).trans rfl
                      replace ha := Aside0.mk ha
                      have HBr := Aside0.mk Q_HBr
                      refine value_ (w1 := w') (v := .int .i64 (m : Int)) (by rfl) rfl ?_ ?_
                      · go_simp
                        (try simp only [i64_w])
                        try rfl
                      refine hK.out _ _ ⟨(by rw [ha.out]; exact putSel_upk 2 hb_ rfl rfl rfl), Q_HBr⟩
                    refine steps_cons ?_ ?_
                    · rintro b a w' ⟨ha, Q_HBr⟩ hb_ hon hoff
                      refine ⟨_, rfl, fun K hK => ?_⟩
                      have e68 : a.tmps[68]? = some (.slice (some ad) l.length c) := by rw [ha]; exact putSel_on (e := (1, 68, .slice (some ad) l.length c)) 1 rfl rfl (hon 1 (by kernel_rfl)) rfl
                      have e69 : a.tmps[69]? = some (.int .i64 (m : Int)) := by rw [ha]; exact putSel_on (e := (2, 69, .int .i64 (m : Int))) 2 rfl rfl (hon 2 (by kernel_rfl)) rfl
                      replace ha := Aside0.mk ha
                      have HBr := Aside0.mk Q_HBr
                      refine value_ (w1 := w') (v := .pointer (some (ad.add (m * 7)))) (by rfl) rfl ?_ ?_
                      · go_simp
                        (try simp only [i64_w])
                        try rfl
                      refine hK.out _ _ ⟨(by rw [ha.out]; exact putSel_upk 3 hb_ rfl rfl rfl), Q_HBr⟩
                    refine steps_cons ?_ ?_
                    · rintro b a w' ⟨ha, Q_HBr⟩ hb_ hon hoff
                      refine ⟨_, rfl, fun K hK => ?_⟩
                      have e70 : a.tmps[70]? = some (.pointer (some (ad.add (m * 7)))) := by rw [ha]; exact putSel_on (e := (3, 70, .pointer (some (ad.add (m * 7))))) 3 rfl rfl (hon 3 (by kernel_rfl)) rfl
                      replace ha := Aside0.mk ha
                      have HBr := Aside0.mk Q_HBr
                      have z0 := pw_cell_below HBr.out q0
                      have z1 := pw_cell_below HBr.out q1
                      have z2 := pw_cell_below HBr.out q2
                      have z3 := pw_cell_below HBr.out q3
                      have z4 := pw_cell_below HBr.out q4
                      have z5 := pw_cell_below HBr.out q5
                      have z6 := pw_cell_below HBr.out q6
                      refine value_ (w1 := w') (v := .agg #[.int .i64 (rd_T39 l (m : Int)).f0.f0, .int .i64 (rd_T39 l (m : Int)).f0.f1, .int .i64 (rd_T39 l (m : Int)).f0.f2, .int .i64 (rd_T39 l (m : Int)).f0.f3, .bool (rd_T39 l (m : Int)).f0.f4, .int .i64 (rd_T39 l (m : Int)).f1, .int .i64 (rd_T39 l (m : Int)).f2]) (by rfl) rfl ?_ ?_
                      · go_simp
                        (try simp only [i64_w])
                        try rfl
                      refine hK.out _ _ ⟨(by rw [ha.out]; exact putSel_upk 4 hb_ rfl rfl rfl), Q_HBr⟩
                    refine steps_cons ?_ ?_
                    · rintro b a w' ⟨ha, Q_HBr⟩ hb_ hon hoff
                      refine ⟨_, rfl, fun K hK => ?_⟩
                      have e67 : a.tmps[67]? = some (.slice B1 (l.filter fun x => !p x).length n1) := by rw [ha]; exact putSel_on (e := (0, 67, .slice B1 (l.filter fun x => !p x).length n1)) 0 rfl rfl (hon 0 (by kernel_rfl)) rfl
                      have e71 : a.tmps[71]? = some (.agg #[.int .i64 (rd_T39 l (m : Int)).f0.f0, .int .i64 (rd_T39 l (m : Int)).f0.f1, .int .i64 (rd_T39 l (m : Int)).f0.f2, .int .i64 (rd_T39 l (m : Int)).f0.f3, .bool (rd_T39 l (m : Int)).f0.f4, .int .i64 (rd_T39 l (m : Int)).f1, .int .i64 (rd_T39 l (m : Int)).f2]) := by rw [ha]; exact putSel_on (e := (4, 71, .agg #[.int .i64 (rd_T39 l (m : Int)).f0.f0, .int .i64 (rd_T39 l (m : Int)).f0.f1, .int .i64 (rd_T39 l (m : Int)).f0.f2, .int .i64 (rd_T39 l (m : Int)).f0.f3, .bool (rd_T39 l (m : Int)).f0.f4, .int .i64 (rd_T39 l (m : Int)).f1, .int .i64 (rd_T39 l (m : Int)).f2])) 4 rfl rfl (hon 4 (by kernel_rfl)) rfl
                      replace ha := Aside0.mk ha
                      have HBr := Aside0.mk Q_HBr
                      refine goes_ Try.func14 (by kernel_rfl) rfl #[.slice B1 (l.filter fun x => !p x).length n1, .agg #[.int .i64 (rd_T39 l (m : Int)).f0.f0, .int .i64 (rd_T39 l (m : Int)).f0.f1, .int .i64 (rd_T39 l (m : Int)).f0.f2, .int .i64 (rd_T39 l (m : Int)).f0.f3, .bool (rd_T39 l (m : Int)).f0.f4, .int .i64 (rd_T39 l (m : Int)).f1, .int .i64 (rd_T39 l (m : Int)).f2]] (by rfl) rfl rfl (by first | (simp only [List.map_toArray, List.map_cons, List.map_nil, Act.eval, Array.getD_eq_getD_getElem?, Option.getD_some, e67, e71]; done) | (simp only [List.map_toArray, List.map_cons, List.map_nil, Act.eval, Array.getD_eq_getD_getElem?, Option.getD_some, e67, e71]; rfl)) ?_
                      refine (HH1.out _ HBr.out).mono ?_
                      rintro e w1 ⟨rfl, hb1⟩
                      refine ⟨_, rfl, ?_⟩
                      refine hK.out _ _ ⟨(by rw [ha.out]; exact putSel_upk 5 hb_ rfl rfl rfl), below_step HBr.out hb1⟩
                    refine steps_cons ?_ ?_
                    · rintro b a w' ⟨ha, Q_HBr⟩ hb_ hon hoff
                      refine ⟨_, rfl, fun K hK => ?_⟩
                      have e7 : a.tmps[7]? = some (.slice B2 (l.filter p).length n2) := by rw [ha]; exact (putSel_off rfl).trans rfl
                      replace ha := Aside0.mk ha
                      have HBr := Aside0.mk Q_HBr
                      refine value_ (w1 := w') (v := .slice B2 (l.filter p).length n2) (by rfl) rfl ?_ ?_
                      · go_simp
                        (try simp only [i64_w])
                        try rfl
                      refine hK.out _ _ ⟨(by rw [ha.out]; exact putSel_upk 6 hb_ rfl rfl rfl), Q_HBr⟩
                    refine steps_cons ?_ ?_
                    · rintro b a w' ⟨ha, Q_HBr⟩ hb_ hon hoff
                      refine ⟨_, rfl, fun K hK => ?_⟩
                      have e0 : a.tmps[0]? = some (.slice (some ad) l.length c) := by rw [ha]; exact (putSel_off rfl).trans rfl
                      replace ha := Aside0.mk ha
                      have HBr := Aside0.mk Q_HBr
                      refine value_ (w1 := w') (v := .slice (some ad) l.length c) (by rfl) rfl ?_ ?_
                      · go_simp
                        (try simp only [i64_w])
                        try rfl
                      refine hK.out _ _ ⟨(by rw [ha.out]; exact putSel_upk 7 hb_ rfl rfl rfl), Q_HBr⟩
                    refine steps_cons ?_ ?_
                    · rintro b a w' ⟨ha, Q_HBr⟩ hb_ hon hoff
                      refine ⟨_, rfl, fun K hK => ?_⟩
                      have e8 : a.tmps[8]? = some (.int .i64 (m : Int)) := by rw [ha]; exact (putSel_off rfl).trans rfl
                      replace ha := Aside0.mk ha
                      have HBr := Aside0.mk Q_HBr
                      refine value_ (w1 := w') (v := .int .i64 (m : Int)) (by rfl) rfl ?_ ?_
                      · go_simp
                        (try simp only [i64_w])
                        try rfl
                      refine hK.out _ _ ⟨(by rw [ha.out]; exact putSel_upk 8 hb_ rfl rfl rfl), Q_HBr⟩
                    refine steps_cons ?_ ?_
                    · rintro b a w' ⟨ha, Q_HBr⟩ hb_ hon hoff
                      refine ⟨_, rfl, fun K hK => ?_⟩
                      have e74 : a.tmps[74]? = some (.slice (some ad) l.length c) := by rw [ha]; exact putSel_on (e := (7, 74, .slice (some ad) l.length c)) 7 rfl rfl (hon 7 (by kernel_rfl)) rfl
                      have e75 : a.tmps[75]? = some (.int .i64 (m : Int)) := by rw [ha]; exact putSel_on (e := (8, 75, .int .i64 (m : Int))) 8 rfl rfl (hon 8 (by kernel_rfl)) rfl
                      replace ha := Aside0.mk ha
                      have HBr := Aside0.mk Q_HBr
                      refine value_ (w1 := w') (v := .pointer (some (ad.add (m * 7)))) (by rfl) rfl ?_ ?_
                      · go_simp
                        (try simp only [i64_w])
                        try rfl
                      refine hK.out _ _ ⟨(by rw [ha.out]; exact putSel_upk 9 hb_ rfl rfl rfl), Q_HBr⟩
                    refine steps_cons ?_ ?_
                    · rintro b a w' ⟨ha, Q_HBr⟩ hb_ hon hoff
                      refine ⟨_, rfl, fun K hK => ?_⟩
                      have e76 : a.tmps[76]? = some (.pointer (some (ad.add (m * 7)))) := by rw [ha]; exact putSel_on (e := (9, 76, .pointer (some (ad.add (m * 7))))) 9 rfl rfl (hon 9 (by kernel_rfl)) rfl
                      replace ha := Aside0.mk ha
                      have HBr := Aside0.mk Q_HBr
                      have z0 := pw_cell_below HBr.out q0
                      have z1 := pw_cell_below HBr.out q1
                      have z2 := pw_cell_below HBr.out q2
                      have z3 := pw_cell_below HBr.out q3
                      have z4 := pw_cell_below HBr.out q4
                      have z5 := pw_cell_below HBr.out q5
                      have z6 := pw_cell_below HBr.out q6
                      refine value_ (w1 := w') (v := .agg #[.int .i64 (rd_T39 l (m : Int)).f0.f0, .int .i64 (rd_T39 l (m : Int)).f0.f1, .int .i64 (rd_T39 l (m : Int)).f0.f2, .int .i64 (rd_T39 l (m : Int)).f0.f3, .bool (rd_T39 l (m : Int)).f0.f4, .int .i64 (rd_T39 l (m : Int)).f1, .int .i64 (rd_T39 l (m : Int)).f2]) (by rfl) rfl ?_ ?_
                      · go_simp
                        (try simp only [i64_w])
                        try rfl
                      refine hK.out _ _ ⟨(by rw [ha.out]; exact putSel_upk 10 hb_ rfl rfl rfl), Q_HBr⟩
                    refine steps_cons ?_ ?_
                    · rintro b a w' ⟨ha, Q_HBr⟩ hb_ hon hoff
                      refine ⟨_, rfl, fun K hK => ?_⟩
                      have e73 : a.tmps[73]? = some (.slice B2 (l.filter p).length n2) := by rw [ha]; exact putSel_on (e := (6, 73, .slice B2 (l.filter p).length n2)) 6 rfl rfl (hon 6 (by kernel_rfl)) rfl
                      have e77 : a.tmps[77]? = some (.agg #[.int .i64 (rd_T39 l (m : Int)).f0.f0, .int .i64 (rd_T39 l (m : Int)).f0.f1, .int .i64 (rd_T39 l (m : Int)).f0.f2, .int .i64 (rd_T39 l (m : Int)).f0.f3, .bool (rd_T39 l (m : Int)).f0.f4, .int .i64 (rd_T39 l (m : Int)).f1, .int .i64 (rd_T39 l (m : Int)).f2]) := by rw [ha]; exact putSel_on (e := (10, 77, .agg #[.int .i64 (rd_T39 l (m : Int)).f0.f0, .int .i64 (rd_T39 l (m : Int)).f0.f1, .int .i64 (rd_T39 l (m : Int)).f0.f2, .int .i64 (rd_T39 l (m : Int)).f0.f3, .bool (rd_T39 l (m : Int)).f0.f4, .int .i64 (rd_T39 l (m : Int)).f1, .int .i64 (rd_T39 l (m : Int)).f2])) 10 rfl rfl (hon 10 (by kernel_rfl)) rfl
                      replace ha := Aside0.mk ha
                      have HBr := Aside0.mk Q_HBr
                      refine goes_ Try.func14 (by kernel_rfl) rfl #[.slice B2 (l.filter p).length n2, .agg #[.int .i64 (rd_T39 l (m : Int)).f0.f0, .int .i64 (rd_T39 l (m : Int)).f0.f1, .int .i64 (rd_T39 l (m : Int)).f0.f2, .int .i64 (rd_T39 l (m : Int)).f0.f3, .bool (rd_T39 l (m : Int)).f0.f4, .int .i64 (rd_T39 l (m : Int)).f1, .int .i64 (rd_T39 l (m : Int)).f2]] (by rfl) rfl rfl (by first | (simp only [List.map_toArray, List.map_cons, List.map_nil, Act.eval, Array.getD_eq_getD_getElem?, Option.getD_some, e73, e77]; done) | (simp only [List.map_toArray, List.map_cons, List.map_nil, Act.eval, Array.getD_eq_getD_getElem?, Option.getD_some, e73, e77]; rfl)) ?_
                      refine (HH2.out _ HBr.out).mono ?_
                      rintro e w1 ⟨rfl, hb1⟩
                      refine ⟨_, rfl, ?_⟩
                      refine hK.out _ _ ⟨(by rw [ha.out]; exact putSel_upk 11 hb_ rfl rfl rfl), below_step HBr.out hb1⟩
                    refine steps_cons ?_ ?_
                    · rintro b a w' ⟨ha, Q_HBr⟩ hb_ hon hoff
                      refine ⟨_, rfl, fun K hK => ?_⟩
                      have e72 : a.tmps[72]? = some (.int .i64 z) := by rw [ha]; exact putSel_on (e := (5, 72, .int .i64 z)) 5 rfl rfl (hon 5 (by kernel_rfl)) rfl
                      have e78 : a.tmps[78]? = some (.int .i64 0) := by rw [ha]; exact putSel_on (e := (11, 78, .int .i64 0)) 11 rfl rfl (hon 11 (by kernel_rfl)) rfl
                      replace ha := Aside0.mk ha
                      have HBr := Aside0.mk Q_HBr
                      refine value_ (w1 := w') (v := .int .i64 z) (by rfl) rfl ?_ ?_
                      · go_simp
                        (try simp only [i64_w])
                        try rfl
                      refine hK.out _ _ ⟨(by rw [ha.out]; exact putSel_upk 12 hb_ rfl rfl rfl), Q_HBr⟩
                    refine steps_cons ?_ ?_
                    · rintro b a w' ⟨ha, Q_HBr⟩ hb_ hon hoff
                      refine ⟨_, rfl, fun K hK => ?_⟩
                      have e0 : a.tmps[0]? = some (.slice (some ad) l.length c) := by rw [ha]; exact (putSel_off rfl).trans rfl
                      replace ha := Aside0.mk ha
                      have HBr := Aside0.mk Q_HBr
                      refine value_ (w1 := w') (v := .slice (some ad) l.length c) (by rfl) rfl ?_ ?_
                      · go_simp
                        (try simp only [i64_w])
                        try rfl
                      refine hK.out _ _ ⟨(by rw [ha.out]; exact putSel_upk 13 hb_ rfl rfl rfl), Q_HBr⟩
                    refine steps_cons ?_ ?_
                    · rintro b a w' ⟨ha, Q_HBr⟩ hb_ hon hoff
                      refine ⟨_, rfl, fun K hK => ?_⟩
                      have e0 : a.tmps[0]? = some (.slice (some ad) l.length c) := by rw [ha]; exact (putSel_off rfl).trans rfl
                      replace ha := Aside0.mk ha
                      have HBr := Aside0.mk Q_HBr
                      refine value_ (w1 := w') (v := .slice (some ad) l.length c) (by rfl) rfl ?_ ?_
                      · go_simp
                        (try simp only [i64_w])
                        try rfl
                      refine hK.out _ _ ⟨(by rw [ha.out]; exact putSel_upk 14 hb_ rfl rfl rfl), Q_HBr⟩
                    refine steps_cons ?_ ?_
                    · rintro b a w' ⟨ha, Q_HBr⟩ hb_ hon hoff
                      refine ⟨_, rfl, fun K hK => ?_⟩
                      have e8 : a.tmps[8]? = some (.int .i64 (m : Int)) := by rw [ha]; exact (putSel_off rfl).trans rfl
                      replace ha := Aside0.mk ha
                      have HBr := Aside0.mk Q_HBr
                      refine value_ (w1 := w') (v := .int .i64 (m : Int)) (by rfl) rfl ?_ ?_
                      · go_simp
                        (try simp only [i64_w])
                        try rfl
                      refine hK.out _ _ ⟨(by rw [ha.out]; exact putSel_upk 15 hb_ rfl rfl rfl), Q_HBr⟩
                    refine steps_cons ?_ ?_
                    · rintro b a w' ⟨ha, Q_HBr⟩ hb_ hon hoff
                      refine ⟨_, rfl, fun K hK => ?_⟩
                      have e81 : a.tmps[81]? = some (.slice (some ad) l.length c) := by rw [ha]; exact putSel_on (e := (14, 81, .slice (some ad) l.length c)) 14 rfl rfl (hon 14 (by kernel_rfl)) rfl
                      have e82 : a.tmps[82]? = some (.int .i64 (m : Int)) := by rw [ha]; exact putSel_on (e := (15, 82, .int .i64 (m : Int))) 15 rfl rfl (hon 15 (by kernel_rfl)) rfl
                      replace ha := Aside0.mk ha
                      have HBr := Aside0.mk Q_HBr
                      refine value_ (w1 := w') (v := .pointer (some (ad.add (m * 7)))) (by rfl) rfl ?_ ?_
                      · go_simp
                        (try simp only [i64_w])
                        try rfl
                      refine hK.out _ _ ⟨(by rw [ha.out]; exact putSel_upk 16 hb_ rfl rfl rfl), Q_HBr⟩
                    refine steps_cons ?_ ?_
                    · rintro b a w' ⟨ha, Q_HBr⟩ hb_ hon hoff
                      refine ⟨_, rfl, fun K hK => ?_⟩
                      have e83 : a.tmps[83]? = some (.pointer (some (ad.add (m * 7)))) := by rw [ha]; exact putSel_on (e := (16, 83, .pointer (some (ad.add (m * 7))))) 16 rfl rfl (hon 16 (by kernel_rfl)) rfl
                      replace ha := Aside0.mk ha
                      have HBr := Aside0.mk Q_HBr
                      have z0 := pw_cell_below HBr.out q0
                      have z1 := pw_cell_below HBr.out q1
                      have z2 := pw_cell_below HBr.out q2
                      have z3 := pw_cell_below HBr.out q3
                      have z4 := pw_cell_below HBr.out q4
                      have z5 := pw_cell_below HBr.out q5
                      have z6 := pw_cell_below HBr.out q6
                      refine value_ (w1 := w') (v := .agg #[.int .i64 (rd_T39 l (m : Int)).f0.f0, .int .i64 (rd_T39 l (m : Int)).f0.f1, .int .i64 (rd_T39 l (m : Int)).f0.f2, .int .i64 (rd_T39 l (m : Int)).f0.f3, .bool (rd_T39 l (m : Int)).f0.f4, .int .i64 (rd_T39 l (m : Int)).f1, .int .i64 (rd_T39 l (m : Int)).f2]) (by rfl) rfl ?_ ?_
                      · go_simp
                        (try simp only [i64_w])
                        try rfl
                      refine hK.out _ _ ⟨(by rw [ha.out]; exact putSel_upk 17 hb_ rfl rfl rfl), Q_HBr⟩
                    refine steps_cons ?_ ?_
                    · rintro b a w' ⟨ha, Q_HBr⟩ hb_ hon hoff
                      refine ⟨_, rfl, fun K hK => ?_⟩
                      have e80 : a.tmps[80]? = some (.slice (some ad) l.length c) := by rw [ha]; exact putSel_on (e := (13, 80, .slice (some ad) l.length c)) 13 rfl rfl (hon 13 (by kernel_rfl)) rfl
                      have e84 : a.tmps[84]? = some (.agg #[.int .i64 (rd_T39 l (m : Int)).f0.f0, .int .i64 (rd_T39 l (m : Int)).f0.f1, .int .i64 (rd_T39 l (m : Int)).f0.f2, .int .i64 (rd_T39 l (m : Int)).f0.f3, .bool (rd_T39 l (m : Int)).f0.f4, .int .i64 (rd_T39 l (m : Int)).f1, .int .i64 (rd_T39 l (m : Int)).f2]) := by rw [ha]; exact putSel_on (e := (17, 84, .agg #[.int .i64 (rd_T39 l (m : Int)).f0.f0, .int .i64 (rd_T39 l (m : Int)).f0.f1, .int .i64 (rd_T39 l (m : Int)).f0.f2, .int .i64 (rd_T39 l (m : Int)).f0.f3, .bool (rd_T39 l (m : Int)).f0.f4, .int .i64 (rd_T39 l (m : Int)).f1, .int .i64 (rd_T39 l (m : Int)).f2])) 17 rfl rfl (hon 17 (by kernel_rfl)) rfl
                      replace ha := Aside0.mk ha
                      have HBr := Aside0.mk Q_HBr
                      refine goes_ Try.func14 (by kernel_rfl) rfl #[.slice (some ad) l.length c, .agg #[.int .i64 (rd_T39 l (m : Int)).f0.f0, .int .i64 (rd_T39 l (m : Int)).f0.f1, .int .i64 (rd_T39 l (m : Int)).f0.f2, .int .i64 (rd_T39 l (m : Int)).f0.f3, .bool (rd_T39 l (m : Int)).f0.f4, .int .i64 (rd_T39 l (m : Int)).f1, .int .i64 (rd_T39 l (m : Int)).f2]] (by rfl) rfl rfl (by first | (simp only [List.map_toArray, List.map_cons, List.map_nil, Act.eval, Array.getD_eq_getD_getElem?, Option.getD_some, e80, e84]; done) | (simp only [List.map_toArray, List.map_cons, List.map_nil, Act.eval, Array.getD_eq_getD_getElem?, Option.getD_some, e80, e84]; rfl)) ?_
                      refine (HHL.out _ HBr.out).mono ?_
                      rintro e w1 ⟨rfl, hb1⟩
                      refine ⟨_, rfl, ?_⟩
                      refine hK.out _ _ ⟨(by rw [ha.out]; exact putSel_upk 18 hb_ rfl rfl rfl), below_step HBr.out hb1⟩
                    refine steps_cons ?_ ?_
                    · rintro b a w' ⟨ha, Q_HBr⟩ hb_ hon hoff
                      refine ⟨_, rfl, fun K hK => ?_⟩
                      have e79 : a.tmps[79]? = some (.int .i64 z) := by rw [ha]; exact putSel_on (e := (12, 79, .int .i64 z)) 12 rfl rfl (hon 12 (by kernel_rfl)) rfl
                      have e85 : a.tmps[85]? = some (.int .i64 z) := by rw [ha]; exact putSel_on (e := (18, 85, .int .i64 z)) 18 rfl rfl (hon 18 (by kernel_rfl)) rfl
                      replace ha := Aside0.mk ha
                      have HBr := Aside0.mk Q_HBr
                      refine value_ (w1 := w') (v := .bool false) (by rfl) rfl ?_ ?_
                      · go_simp
                        (try simp only [i64_w])
                        try rfl
                      refine hK.out _ _ ⟨(by rw [ha.out]; exact putSel_upk 19 hb_ rfl rfl rfl), Q_HBr⟩
                    refine steps_cons ?_ ?_
                    · rintro b a w' ⟨ha, Q_HBr⟩ hb_ hon hoff
                      refine ⟨_, rfl, fun K hK => ?_⟩
                      have e86 : a.tmps[86]? = some (.bool false) := by rw [ha]; exact putSel_on (e := (19, 86, .bool false)) 19 rfl rfl (hon 19 (by kernel_rfl)) rfl
                      replace ha := Aside0.mk ha
                      have HBr := Aside0.mk Q_HBr
                      refine value_ (w1 := w') (v := .bool false) (by rfl) rfl ?_ ?_
                      · go_simp
                        (try simp only [i64_w])
                        try rfl
                      refine hK.out _ _ ⟨(by rw [ha.out]; exact putSel_upk 20 hb_ rfl rfl rfl), Q_HBr⟩
                    refine steps_cons ?_ ?_
                    · rintro b a w' ⟨ha, Q_HBr⟩ hb_ hon hoff
                      refine ⟨_, rfl, fun K hK => ?_⟩
                      have e6 : a.tmps[6]? = some (.slice B1 (l.filter fun x => !p x).length n1) := by rw [ha]; exact (putSel_off rfl).trans rfl
                      have e87 : a.tmps[87]? = some (.bool false) := by rw [ha]; exact putSel_on (e := (20, 87, .bool false)) 20 rfl rfl (hon 20 (by kernel_rfl)) rfl
                      replace ha := Aside0.mk ha
                      have HBr := Aside0.mk Q_HBr
                      refine value_ (w1 := w') (v := .slice B1 (l.filter fun x => !p x).length n1) (wanted_on rfl rfl rfl (e87.trans (by first | rfl | (simp [*]; done)))) rfl ?_ ?_
                      · go_simp
                        (try simp only [i64_w])
                        try rfl
                      refine hK.out _ _ ⟨(by rw [ha.out]; exact putSel_upk 21 hb_ rfl rfl rfl), Q_HBr⟩
                    refine steps_cons ?_ ?_
                    · rintro b a w' ⟨ha, Q_HBr⟩ hb_ hon hoff
                      refine ⟨_, rfl, fun K hK => ?_⟩
                      have e0 : a.tmps[0]? = some (.slice (some ad) l.length c) := by rw [ha]; exact (putSel_off rfl).trans rfl
                      have e87 : a.tmps[87]? = some (.bool false) := by rw [ha]; exact putSel_on (e := (20, 87, .bool false)) 20 rfl rfl (hon 20 (by kernel_rfl)) rfl
                      replace ha := Aside0.mk ha
                      have HBr := Aside0.mk Q_HBr
                      refine value_ (w1 := w') (v := .slice (some ad) l.length c) (wanted_on rfl rfl rfl (e87.trans (by first | rfl | (simp [*]; done)))) rfl ?_ ?_
                      · go_simp
                        (try simp only [i64_w])
                        try rfl
                      refine hK.out _ _ ⟨(by rw [ha.out]; exact putSel_upk 22 hb_ rfl rfl rfl), Q_HBr⟩
                    refine steps_cons ?_ ?_
                    · rintro b a w' ⟨ha, Q_HBr⟩ hb_ hon hoff
                      refine ⟨_, rfl, fun K hK => ?_⟩
                      have e8 : a.tmps[8]? = some (.int .i64 (m : Int)) := by rw [ha]; exact (putSel_off rfl).trans rfl
                      have e87 : a.tmps[87]? = some (.bool false) := by rw [ha]; exact putSel_on (e := (20, 87, .bool false)) 20 rfl rfl (hon 20 (by kernel_rfl)) rfl
                      replace ha := Aside0.mk ha
                      have HBr := Aside0.mk Q_HBr
                      refine value_ (w1 := w') (v := .int .i64 (m : Int)) (wanted_on rfl rfl rfl (e87.trans (by first | rfl | (simp [*]; done)))) rfl ?_ ?_
                      · go_simp
                        (try simp only [i64_w])
                        try rfl
                      refine hK.out _ _ ⟨(by rw [ha.out]; exact putSel_upk 23 hb_ rfl rfl rfl), Q_HBr⟩
                    refine steps_cons ?_ ?_
                    · rintro b a w' ⟨ha, Q_HBr⟩ hb_ hon hoff
                      refine ⟨_, rfl, fun K hK => ?_⟩
                      have e89 : a.tmps[89]? = some (.slice (some ad) l.length c) := by rw [ha]; exact putSel_on (e := (22, 89, .slice (some ad) l.length c)) 22 rfl rfl (hon 22 (by kernel_rfl)) rfl
                      have e90 : a.tmps[90]? = some (.int .i64 (m : Int)) := by rw [ha]; exact putSel_on (e := (23, 90, .int .i64 (m : Int))) 23 rfl rfl (hon 23 (by kernel_rfl)) rfl
                      have e87 : a.tmps[87]? = some (.bool false) := by rw [ha]; exact putSel_on (e := (20, 87, .bool false)) 20 rfl rfl (hon 20 (by kernel_rfl)) rfl
                      replace ha := Aside0.mk ha
                      have HBr := Aside0.mk Q_HBr
                      refine value_ (w1 := w') (v := .pointer (some (ad.add (m * 7)))) (wanted_on rfl rfl rfl (e87.trans (by first | rfl | (simp [*]; done)))) rfl ?_ ?_
                      · go_simp
                        (try simp only [i64_w])
                        try rfl
                      refine hK.out _ _ ⟨(by rw [ha.out]; exact putSel_upk 24 hb_ rfl rfl rfl), Q_HBr⟩
                    refine steps_cons ?_ ?_
                    · rintro b a w' ⟨ha, Q_HBr⟩ hb_ hon hoff
                      refine ⟨_, rfl, fun K hK => ?_⟩
                      have e91 : a.tmps[91]? = some (.pointer (some (ad.add (m * 7)))) := by rw [ha]; exact putSel_on (e := (24, 91, .pointer (some (ad.add (m * 7))))) 24 rfl rfl (hon 24 (by kernel_rfl)) rfl
                      have e87 : a.tmps[87]? = some (.bool false) := by rw [ha]; exact putSel_on (e := (20, 87, .bool false)) 20 rfl rfl (hon 20 (by kernel_rfl)) rfl
                      replace ha := Aside0.mk ha
                      have HBr := Aside0.mk Q_HBr
                      have z0 := pw_cell_below HBr.out q0
                      have z1 := pw_cell_below HBr.out q1
                      have z2 := pw_cell_below HBr.out q2
                      have z3 := pw_cell_below HBr.out q3
                      have z4 := pw_cell_below HBr.out q4
                      have z5 := pw_cell_below HBr.out q5
                      have z6 := pw_cell_below HBr.out q6
                      refine value_ (w1 := w') (v := .agg #[.int .i64 (rd_T39 l (m : Int)).f0.f0, .int .i64 (rd_T39 l (m : Int)).f0.f1, .int .i64 (rd_T39 l (m : Int)).f0.f2, .int .i64 (rd_T39 l (m : Int)).f0.f3, .bool (rd_T39 l (m : Int)).f0.f4, .int .i64 (rd_T39 l (m : Int)).f1, .int .i64 (rd_T39 l (m : Int)).f2]) (wanted_on rfl rfl rfl (e87.trans (by first | rfl | (simp [*]; done)))) rfl ?_ ?_
                      · go_simp
                        (try simp only [i64_w])
                        try rfl
                      refine hK.out _ _ ⟨(by rw [ha.out]; exact putSel_upk 25 hb_ rfl rfl rfl), Q_HBr⟩
                    refine steps_cons ?_ ?_
                    · rintro b a w' ⟨ha, Q_HBr⟩ hb_ hon hoff
                      refine ⟨_, rfl, fun K hK => ?_⟩
                      have e88 : a.tmps[88]? = some (.slice B1 (l.filter fun x => !p x).length n1) := by rw [ha]; exact putSel_on (e := (21, 88, .slice B1 (l.filter fun x => !p x).length n1)) 21 rfl rfl (hon 21 (by kernel_rfl)) rfl
                      have e92 : a.tmps[92]? = some (.agg #[.int .i64 (rd_T39 l (m : Int)).f0.f0, .int .i64 (rd_T39 l (m : Int)).f0.f1, .int .i64 (rd_T39 l (m : Int)).f0.f2, .int .i64 (rd_T39 l (m : Int)).f0.f3, .bool (rd_T39 l (m : Int)).f0.f4, .int .i64 (rd_T39 l (m : Int)).f1, .int .i64 (rd_T39 l (m : Int)).f2]) := by rw [ha]; exact putSel_on (e := (25, 92, .agg #[.int .i64 (rd_T39 l (m : Int)).f0.f0, .int .i64 (rd_T39 l (m : Int)).f0.f1, .int .i64 (rd_T39 l (m : Int)).f0.f2, .int .i64 (rd_T39 l (m : Int)).f0.f3, .bool (rd_T39 l (m : Int)).f0.f4, .int .i64 (rd_T39 l (m : Int)).f1, .int .i64 (rd_T39 l (m : Int)).f2])) 25 rfl rfl (hon 25 (by kernel_rfl)) rfl
                      have e87 : a.tmps[87]? = some (.bool false) := by rw [ha]; exact putSel_on (e := (20, 87, .bool false)) 20 rfl rfl (hon 20 (by kernel_rfl)) rfl
                      replace ha := Aside0.mk ha
                      have HBr := Aside0.mk Q_HBr
                      refine goes_ Try.func14 (by kernel_rfl) rfl #[.slice B1 (l.filter fun x => !p x).length n1, .agg #[.int .i64 (rd_T39 l (m : Int)).f0.f0, .int .i64 (rd_T39 l (m : Int)).f0.f1, .int .i64 (rd_T39 l (m : Int)).f0.f2, .int .i64 (rd_T39 l (m : Int)).f0.f3, .bool (rd_T39 l (m : Int)).f0.f4, .int .i64 (rd_T39 l (m : Int)).f1, .int .i64 (rd_T39 l (m : Int)).f2]] (wanted_on rfl rfl rfl (e87.trans (by first | rfl | (simp [*]; done)))) rfl rfl (by first | (simp only [List.map_toArray, List.map_cons, List.map_nil, Act.eval, Array.getD_eq_getD_getElem?, Option.getD_some, e88, e92, e87]; done) | (simp only [List.map_toArray, List.map_cons, List.map_nil, Act.eval, Array.getD_eq_getD_getElem?, Option.getD_some, e88, e92, e87]; rfl)) ?_
                      refine (HH1.out _ HBr.out).mono ?_
                      rintro e w1 ⟨rfl, hb1⟩
                      refine ⟨_, rfl, ?_⟩
                      refine hK.out _ _ ⟨(by rw [ha.out]; exact putSel_upk 26 hb_ rfl rfl rfl), below_step HBr.out hb1⟩
                    refine steps_cons ?_ ?_
                    · rintro b a w' ⟨ha, Q_HBr⟩ hb_ hon hoff
                      refine ⟨_, rfl, fun K hK => ?_⟩
                      have e93 : a.tmps[93]? = some (.int .i64 z) := by rw [ha]; exact putSel_on (e := (26, 93, .int .i64 z)) 26 rfl rfl (hon 26 (by kernel_rfl)) rfl
                      have e87 : a.tmps[87]? = some (.bool false) := by rw [ha]; exact putSel_on (e := (20, 87, .bool false)) 20 rfl rfl (hon 20 (by kernel_rfl)) rfl
                      replace ha := Aside0.mk ha
                      have HBr := Aside0.mk Q_HBr
                      refine value_ (w1 := w') (v := .bool false) (wanted_on rfl rfl rfl (e87.trans (by first | rfl | (simp [*]; done)))) rfl ?_ ?_
                      · go_simp
                        (try simp only [i64_w])
                        try rfl
                      refine hK.out _ _ ⟨(by rw [ha.out]; exact putSel_upk 27 hb_ rfl rfl rfl), Q_HBr⟩
                    refine steps_cons ?_ ?_
                    · rintro b a w' ⟨ha, Q_HBr⟩ hb_ hon hoff
                      refine ⟨_, rfl, fun K hK => ?_⟩
                      have e94 : a.tmps[94]? = some (.bool false) := by rw [ha]; exact putSel_on (e := (27, 94, .bool false)) 27 rfl rfl (hon 27 (by kernel_rfl)) rfl
                      have e87 : a.tmps[87]? = some (.bool false) := by rw [ha]; exact putSel_on (e := (20, 87, .bool false)) 20 rfl rfl (hon 20 (by kernel_rfl)) rfl
                      replace ha := Aside0.mk ha
                      have HBr := Aside0.mk Q_HBr
                      refine value_ (w1 := w') (v := .bool false) (wanted_on rfl rfl rfl (e87.trans (by first | rfl | (simp [*]; done)))) rfl ?_ ?_
                      · go_simp
                        (try simp only [i64_w])
                        try rfl
                      refine hK.out _ _ ⟨(by rw [ha.out]; exact putSel_upk 28 hb_ rfl rfl rfl), Q_HBr⟩
                    refine steps_cons ?_ ?_
                    · rintro b a w' ⟨ha, Q_HBr⟩ hb_ hon hoff
                      refine ⟨_, rfl, fun K hK => ?_⟩
                      have e95 : a.tmps[95]? = some (.bool false) := by rw [ha]; exact putSel_on (e := (28, 95, .bool false)) 28 rfl rfl (hon 28 (by kernel_rfl)) rfl
                      replace ha := Aside0.mk ha
                      have HBr := Aside0.mk Q_HBr
                      refine off_ (wanted_off rfl rfl rfl (e95.trans (by first | rfl | (simp [*]; done)))) ?_
                      refine hK.out _ _ ⟨(by rw [ha.out]; exact putSel_upk 29 hb_ rfl rfl rfl), Q_HBr⟩
                    refine steps_cons ?_ ?_
                    · rintro b a w' ⟨ha, Q_HBr⟩ hb_ hon hoff
                      refine ⟨_, rfl, fun K hK => ?_⟩
                      have e95 : a.tmps[95]? = some (.bool false) := by rw [ha]; exact putSel_on (e := (28, 95, .bool false)) 28 rfl rfl (hon 28 (by kernel_rfl)) rfl
                      replace ha := Aside0.mk ha
                      have HBr := Aside0.mk Q_HBr
                      refine off_ (wanted_off rfl rfl rfl (e95.trans (by first | rfl | (simp [*]; done)))) ?_
                      refine hK.out _ _ ⟨(by rw [ha.out]; exact putSel_upk 30 hb_ rfl rfl rfl), Q_HBr⟩
                    refine steps_cons ?_ ?_
                    · rintro b a w' ⟨ha, Q_HBr⟩ hb_ hon hoff
                      refine ⟨_, rfl, fun K hK => ?_⟩
                      have e95 : a.tmps[95]? = some (.bool false) := by rw [ha]; exact putSel_on (e := (28, 95, .bool false)) 28 rfl rfl (hon 28 (by kernel_rfl)) rfl
                      replace ha := Aside0.mk ha
                      have HBr := Aside0.mk Q_HBr
                      refine off_ (wanted_off rfl rfl rfl (e95.trans (by first | rfl | (simp [*]; done)))) ?_
                      refine hK.out _ _ ⟨(by rw [ha.out]; exact putSel_upk 31 hb_ rfl rfl rfl), Q_HBr⟩
                    refine steps_cons ?_ ?_
                    · rintro b a w' ⟨ha, Q_HBr⟩ hb_ hon hoff
                      refine ⟨_, rfl, fun K hK => ?_⟩
                      have e95 : a.tmps[95]? = some (.bool false) := by rw [ha]; exact putSel_on (e := (28, 95, .bool false)) 28 rfl rfl (hon 28 (by kernel_rfl)) rfl
                      replace ha := Aside0.mk ha
                      have HBr := Aside0.mk Q_HBr
                      refine off_ (wanted_off rfl rfl rfl (e95.trans (by first | rfl | (simp [*]; done)))) ?_
                      refine hK.out _ _ ⟨(by rw [ha.out]; exact putSel_upk 32 hb_ rfl rfl rfl), Q_HBr⟩
                    refine steps_cons ?_ ?_
                    · rintro b a w' ⟨ha, Q_HBr⟩ hb_ hon hoff
                      refine ⟨_, rfl, fun K hK => ?_⟩
                      have e95 : a.tmps[95]? = some (.bool false) := by rw [ha]; exact putSel_on (e := (28, 95, .bool false)) 28 rfl rfl (hon 28 (by kernel_rfl)) rfl
                      replace ha := Aside0.mk ha
                      have HBr := Aside0.mk Q_HBr
                      refine off_ (wanted_off rfl rfl rfl (e95.trans (by first | rfl | (simp [*]; done)))) ?_
                      refine hK.out _ _ ⟨(by rw [ha.out]; exact putSel_upk 33 hb_ rfl rfl rfl), Q_HBr⟩
                    refine steps_cons ?_ ?_
                    · rintro b a w' ⟨ha, Q_HBr⟩ hb_ hon hoff
                      refine ⟨_, rfl, fun K hK => ?_⟩
                      have e95 : a.tmps[95]? = some (.bool false) := by rw [ha]; exact putSel_on (e := (28, 95, .bool false)) 28 rfl rfl (hon 28 (by kernel_rfl)) rfl
                      replace ha := Aside0.mk ha
                      have HBr := Aside0.mk Q_HBr
                      refine off_ (wanted_off rfl rfl rfl (e95.trans (by first | rfl | (simp [*]; done)))) ?_
                      refine hK.out _ _ ⟨(by rw [ha.out]; exact putSel_upk 34 hb_ rfl rfl rfl), Q_HBr⟩
                    refine steps_cons ?_ ?_
                    · rintro b a w' ⟨ha, Q_HBr⟩ hb_ hon hoff
                      refine ⟨_, rfl, fun K hK => ?_⟩
                      have e95 : a.tmps[95]? = some (.bool false) := by rw [ha]; exact putSel_on (e := (28, 95, .bool false)) 28 rfl rfl (hon 28 (by kernel_rfl)) rfl
                      replace ha := Aside0.mk ha
                      have HBr := Aside0.mk Q_HBr
                      refine off_ (wanted_off rfl rfl rfl (e95.trans (by first | rfl | (simp [*]; done)))) ?_
                      refine hK.out _ _ ⟨(by rw [ha.out]; exact putSel_upk 35 hb_ rfl rfl rfl), Q_HBr⟩
                    refine steps_cons ?_ ?_
                    · rintro b a w' ⟨ha, Q_HBr⟩ hb_ hon hoff
                      refine ⟨_, rfl, fun K hK => ?_⟩
                      have e95 : a.tmps[95]? = some (.bool false) := by rw [ha]; exact putSel_on (e := (28, 95, .bool false)) 28 rfl rfl (hon 28 (by kernel_rfl)) rfl
                      have e102 : a.tmps[102]? = some (undef) := by rw [ha]; exact putSel_on (e := (35, 102, undef)) 35 rfl rfl (hon 35 (by kernel_rfl)) rfl
                      have e87 : a.tmps[87]? = some (.bool false) := by rw [ha]; exact putSel_on (e := (20, 87, .bool false)) 20 rfl rfl (hon 20 (by kernel_rfl)) rfl
                      replace ha := Aside0.mk ha
                      have HBr := Aside0.mk Q_HBr
                      refine value_ (w1 := w') (v := .bool false) (wanted_on rfl rfl rfl (e87.trans (by first | rfl | (simp [*]; done)))) rfl ?_ ?_
                      · go_simp
                        (try simp only [i64_w])
                        try rfl
                      refine hK.out _ _ ⟨(by rw [ha.out]; exact putSel_upk 36 hb_ rfl rfl rfl), Q_HBr⟩
                    refine steps_cons ?_ ?_
                    · rintro b a w' ⟨ha, Q_HBr⟩ hb_ hon hoff
                      refine ⟨_, rfl, fun K hK => ?_⟩
                      have e87 : a.tmps[87]? = some (.bool false) := by rw [ha]; exact putSel_on (e := (20, 87, .bool false)) 20 rfl rfl (hon 20 (by kernel_rfl)) rfl
                      have e103 : a.tmps[103]? = some (.bool false) := by rw [ha]; exact putSel_on (e := (36, 103, .bool false)) 36 rfl rfl (hon 36 (by kernel_rfl)) rfl
                      replace ha := Aside0.mk ha
                      have HBr := Aside0.mk Q_HBr
                      refine value_ (w1 := w') (v := .bool false) (by rfl) rfl ?_ ?_
                      · go_simp
                        (try simp only [i64_w])
                        try rfl
                      refine hK.out _ _ ⟨(by rw [ha.out]; exact putSel_upk 37 hb_ rfl rfl rfl), Q_HBr⟩
                    exact steps_nil
                  · rintro b a w' hall ⟨ha, Q_HBr⟩
                    clear HBr
                    have hb0_ := hall 0 (by kernel_rfl)
                    have hb1_ := hall 1 (by kernel_rfl)
                    have hb2_ := hall 2 (by kernel_rfl)
                    have hb3_ := hall 3 (by kernel_rfl)
                    have hb4_ := hall 4 (by kernel_rfl)
                    have hb5_ := hall 5 (by kernel_rfl)
                    have hb6_ := hall 6 (by kernel_rfl)
                    have hb7_ := hall 7 (by kernel_rfl)
                    have hb8_ := hall 8 (by kernel_rfl)
                    have hb9_ := hall 9 (by kernel_rfl)
                    have hb10_ := hall 10 (by kernel_rfl)
                    have hb11_ := hall 11 (by kernel_rfl)
                    have hb12_ := hall 12 (by kernel_rfl)
                    have hb13_ := hall 13 (by kernel_rfl)
                    have hb14_ := hall 14 (by kernel_rfl)
                    have hb15_ := hall 15 (by kernel_rfl)
                    have hb16_ := hall 16 (by kernel_rfl)
                    have hb17_ := hall 17 (by kernel_rfl)
                    have hb18_ := hall 18 (by kernel_rfl)
                    have hb19_ := hall 19 (by kernel_rfl)
                    have hb20_ := hall 20 (by kernel_rfl)
                    have hb21_ := hall 21 (by kernel_rfl)
                    have hb22_ := hall 22 (by kernel_rfl)
                    have hb23_ := hall 23 (by kernel_rfl)
                    have hb24_ := hall 24 (by kernel_rfl)
                    have hb25_ := hall 25 (by kernel_rfl)
                    have hb26_ := hall 26 (by kernel_rfl)
                    have hb27_ := hall 27 (by kernel_rfl)
                    have hb28_ := hall 28 (by kernel_rfl)
                    have hb29_ := hall 29 (by kernel_rfl)
                    have hb30_ := hall 30 (by kernel_rfl)
                    have hb31_ := hall 31 (by kernel_rfl)
                    have hb32_ := hall 32 (by kernel_rfl)
                    have hb33_ := hall 33 (by kernel_rfl)
                    have hb34_ := hall 34 (by kernel_rfl)
                    have hb35_ := hall 35 (by kernel_rfl)
                    have hb36_ := hall 36 (by kernel_rfl)
                    have hb37_ := hall 37 (by kernel_rfl)
                    subst ha
                    simp only [putSel, hb0_, hb1_, hb2_, hb3_, hb4_, hb5_, hb6_, hb7_, hb8_, hb9_, hb10_, hb11_, hb12_, hb13_, hb14_, hb15_, hb16_, hb17_, hb18_, hb19_, hb20_, hb21_, hb22_, hb23_, hb24_, hb25_, hb26_, hb27_, hb28_, hb29_, hb30_, hb31_, hb32_, hb33_, hb34_, hb35_, hb36_, hb37_, if_true, Act.put, List.setIfInBounds_toArray, List.set_cons_zero, List.set_cons_succ]
                    have HBr := Aside0.mk Q_HBr
                    clear Q_HBr
                    clear hall hb0_ hb1_ hb2_ hb3_ hb4_ hb5_ hb6_ hb7_ hb8_ hb9_ hb10_ hb11_ hb12_ hb13_ hb14_ hb15_ hb16_ hb17_ hb18_ hb19_ hb20_ hb21_ hb22_ hb23_ hb24_ hb25_ hb26_ hb27_ hb28_ hb29_ hb30_ hb31_ hb32_ hb33_ hb34_ hb35_ hb36_ hb37_
                    go_wp2
                    go_roundw
                    case rel => first | exact ⟨m + 1, by omega, by go_num, below_step hbr HBr.out⟩ | ((repeat apply Exists.intro); exact ⟨⟨m + 1, by omega, by go_num, below_step hbr HBr.out⟩, rfl⟩)
                    case measure => simp [intOf]; omega
              · rw [hye1 hp] at h2
                rw [hno2 (by simp [hp])] at h1
                clear hno1 hye1 hno2 hye2 hp
                generalize ((cnt l (rd_T39 l (m : Int)) : Nat) : Int) = z at h1 h2 HHL hz0 hz1
                have hwz : IntKind.i64.wrap z = z := IntWalk.i64_in _ (by omega)
                have HH2 := Aside0.mk h2
                have HH1 := Aside0.mk (show ∀ W, Below wr.heap.size wr W → Calls Try.prog 14 #[.slice B1 (l.filter fun x => !p x).length n1, v39 (rd_T39 l (m : Int))] W fun e w' => e = .returned (.int .i64 0) ∧ Below W.heap.size W w' from h1)
                clear h1 h2
                · go_wp2
                  refine start_ (n := 38) (S := fun w' => True) (ds := []) #[false, false, false, false, false, false, false, false, false, false, false, false, false, false, false, false, false, false, false, false, false, false, false, false, false, false, false, false, false, false, false, false, false, false, false, false, false, false] (by kernel_rfl) rfl rfl trivial (fun hHeld => ?_)
                  refine with_tabW parts.tab21 parts.bits21 (fun HT_ HW_ => ?_)
                  have HBr := Aside0.mk (below_drew1 (Below.refl wr.heap.size wr))
                  refine inv_at [0, 1, 2, 3, 4, 5, 6, 7, 8, 9, 10, 11, 12, 13, 14, 15, 16, 17, 18, 19, 20, 21, 22, 23, 24, 25, 26, 27, 28, 29, 30, 31, 32, 33, 34, 35, 36, 37] (fun a0_ b a w' => a = putSel a0_ b [(0, 67, .slice B1 (l.filter fun x => !p x).length n1), (1, 68, .slice (some ad) l.length c), (2, 69, .int .i64 (m : Int)), (3, 70, .pointer (some (ad.add (m * 7)))), (4, 71, .agg #[.int .i64 (rd_T39 l (m : Int)).f0.f0, .int .i64 (rd_T39 l (m : Int)).f0.f1, .int .i64 (rd_T39 l (m : Int)).f0.f2, .int .i64 (rd_T39 l (m : Int)).f0.f3, .bool (rd_T39 l (m : Int)).f0.f4, .int .i64 (rd_T39 l (m : Int)).f1, .int .i64 (rd_T39 l (m : Int)).f2]), (5, 72, .int .i64 0), (6, 73, .slice B2 (l.filter p).length n2), (7, 74, .slice (some ad) l.length c), (8, 75, .int .i64 (m : Int)), (9, 76, .pointer (some (ad.add (m * 7)))), (10, 77, .agg #[.int .i64 (rd_T39 l (m : Int)).f0.f0, .int .i64 (rd_T39 l (m : Int)).f0.f1, .int .i64 (rd_T39 l (m : Int)).f0.f2, .int .i64 (rd_T39 l (m : Int)).f0.f3, .bool (rd_T39 l (m : Int)).f0.f4, .int .i64 (rd_T39 l (m : Int)).f1, .int .i64 (rd_T39 l (m : Int)).f2]), (11, 78, .int .i64 z), (12, 79, .int .i64 z), (13, 80, .slice (some ad) l.length c), (14, 81, .slice (some ad) l.length c), (15, 82, .int .i64 (m : Int)), (16, 83, .pointer (some (ad.add (m * 7)))), (17, 84, .agg #[.int .i64 (rd_T39 l (m : Int)).f0.f0, .int .i64 (rd_T39 l (m : Int)).f0.f1, .int .i64 (rd_T39 l (m : Int)).f0.f2, .int .i64 (rd_T39 l (m : Int)).f0.f3, .bool (rd_T39 l (m : Int)).f0.f4, .int .i64 (rd_T39 l (m : Int)).f1, .int .i64 (rd_T39 l (m : Int)).f2]), (18, 85, .int .i64 z), (19, 86, .bool false), (20, 87, .bool false), (21, 88, .slice B1 (l.filter fun x => !p x).length n1), (22, 89, .slice (some ad) l.length c), (23, 90, .int .i64 (m : Int)), (24, 91, .pointer (some (ad.add (m * 7)))), (25, 92, .agg #[.int .i64 (rd_T39 l (m : Int)).f0.f0, .int .i64 (rd_T39 l (m : Int)).f0.f1, .int .i64 (rd_T39 l (m : Int)).f0.f2, .int .i64 (rd_T39 l (m : Int)).f0.f3, .bool (rd_T39 l (m : Int)).f0.f4, .int .i64 (rd_T39 l (m : Int)).f1, .int .i64 (rd_T39 l (m : Int)).f2]), (26, 93, .int .i64 0), (27, 94, .bool false), (28, 95, .bool false), (29, 96, undef), (30, 97, undef), (31, 98, undef), (32, 99, undef), (33, 100, undef), (34, 101, undef), (35, 102, undef), (36, 103, .bool false), (37, 104, .bool false)] ∧ (Below wr.heap.size wr w')) HT_.out HW_.out (by kernel_rfl) (by kernel_rfl) ?_ ?_ ?_
                  · exact ⟨by simp only [putSel, Bool.false_eq_true, if_false], HBr.out⟩
                  · skip
                    clear HBr
                    refine steps_cons ?_ ?_
                    · rintro b a w' ⟨ha, Q_HBr⟩ hb_ hon hoff
                      refine ⟨_, rfl, fun K hK => ?_⟩
                      have e6 : a.tmps[6]? = some (.slice B1 (l.filter fun x => !p x).length n1) := by rw [ha]; exact (putSel_off rfl).trans rfl
                      replace ha := Aside0.mk ha
                      have HBr := Aside0.mk Q_HBr
                      refine value_ (w1 := w') (v := .slice B1 (l.filter fun x => !p x).length n1) (by rfl) rfl ?_ ?_
                      · go_simp
                        (try simp only [i64_w])
                        try rfl
                      refine hK.out _ _ ⟨(by rw [ha.out]; exact putSel_upk 0 hb_ rfl rfl rfl), Q_HBr⟩
                    refine steps_cons ?_ ?_
                    · rintro b a w' ⟨ha, Q_HBr⟩ hb_ hon hoff
                      refine ⟨_, rfl, fun K hK => ?_⟩
                      have e0 : a.tmps[0]? = some (.slice (some ad) l.length c) := by rw [ha]; exact (putSel_off rfl).trans rfl
                      replace ha := Aside0.mk ha
                      have HBr := Aside0.mk Q_HBr
                      refine value_ (w1 := w') (v := .slice (some ad) l.length c) (by rfl) rfl ?_ ?_
                      · go_simp
                        (try simp only [i64_w])
                        try rfl
                      refine hK.out _ _ ⟨(by rw [ha.out]; exact putSel_upk 1 hb_ rfl rfl rfl), Q_HBr⟩
                    refine steps_cons ?_ ?_
                    · rintro b a w' ⟨ha, Q_HBr⟩ hb_ hon hoff
                      refine ⟨_, rfl, fun K hK => ?_⟩
                      have e8 : a.tmps[8]? = some (.int .i64 (m : Int)) := by rw [ha]; exact (putSel_off rfl).trans rfl
                      replace ha := Aside0.mk ha
                      have HBr := Aside0.mk Q_HBr
                      refine value_ (w1 := w') (v := .int .i64 (m : Int)) (by rfl) rfl ?_ ?_
                      · go_simp
                        (try simp only [i64_w])
                        try rfl
                      refine hK.out _ _ ⟨(by rw [ha.out]; exact putSel_upk 2 hb_ rfl rfl rfl), Q_HBr⟩
                    refine steps_cons ?_ ?_
                    · rintro b a w' ⟨ha, Q_HBr⟩ hb_ hon hoff
                      refine ⟨_, rfl, fun K hK => ?_⟩
                      have e68 : a.tmps[68]? = some (.slice (some ad) l.length c) := by rw [ha]; exact putSel_on (e := (1, 68, .slice (some ad) l.length c)) 1 rfl rfl (hon 1 (by kernel_rfl)) rfl
                      have e69 : a.tmps[69]? = some (.int .i64 (m : Int)) := by rw [ha]; exact putSel_on (e := (2, 69, .int .i64 (m : Int))) 2 rfl rfl (hon 2 (by kernel_rfl)) rfl
                      replace ha := Aside0.mk ha
                      have HBr := Aside0.mk Q_HBr
                      refine value_ (w1 := w') (v := .pointer (some (ad.add (m * 7)))) (by rfl) rfl ?_ ?_
                      · go_simp
                        (try simp only [i64_w])
                        try rfl
                      refine hK.out _ _ ⟨(by rw [ha.out]; exact putSel_upk 3 hb_ rfl rfl rfl), Q_HBr⟩
                    refine steps_cons ?_ ?_
                    · rintro b a w' ⟨ha, Q_HBr⟩ hb_ hon hoff
                      refine ⟨_, rfl, fun K hK => ?_⟩
                      have e70 : a.tmps[70]? = some (.pointer (some (ad.add (m * 7)))) := by rw [ha]; exact putSel_on (e := (3, 70, .pointer (some (ad.add (m * 7))))) 3 rfl rfl (hon 3 (by kernel_rfl)) rfl
                      replace ha := Aside0.mk ha
                      have HBr := Aside0.mk Q_HBr
                      have z0 := pw_cell_below HBr.out q0
                      have z1 := pw_cell_below HBr.out q1
                      have z2 := pw_cell_below HBr.out q2
                      have z3 := pw_cell_below HBr.out q3
                      have z4 := pw_cell_below HBr.out q4
                      have z5 := pw_cell_below HBr.out q5
                      have z6 := pw_cell_below HBr.out q6
                      refine value_ (w1 := w') (v := .agg #[.int .i64 (rd_T39 l (m : Int)).f0.f0, .int .i64 (rd_T39 l (m : Int)).f0.f1, .int .i64 (rd_T39 l (m : Int)).f0.f2, .int .i64 (rd_T39 l (m : Int)).f0.f3, .bool (rd_T39 l (m : Int)).f0.f4, .int .i64 (rd_T39 l (m : Int)).f1, .int .i64 (rd_T39 l (m : Int)).f2]) (by rfl) rfl ?_ ?_
                      · go_simp
                        (try simp only [i64_w])
                        try rfl
                      refine hK.out _ _ ⟨(by rw [ha.out]; exact putSel_upk 4 hb_ rfl rfl rfl), Q_HBr⟩
                    refine steps_cons ?_ ?_
                    · rintro b a w' ⟨ha, Q_HBr⟩ hb_ hon hoff
                      refine ⟨_, rfl, fun K hK => ?_⟩
                      have e67 : a.tmps[67]? = some (.slice B1 (l.filter fun x => !p x).length n1) := by rw [ha]; exact putSel_on (e := (0, 67, .slice B1 (l.filter fun x => !p x).length n1)) 0 rfl rfl (hon 0 (by kernel_rfl)) rfl
                      have e71 : a.tmps[71]? = some (.agg #[.int .i64 (rd_T39 l (m : Int)).f0.f0, .int .i64 (rd_T39 l (m : Int)).f0.f1, .int .i64 (rd_T39 l (m : Int)).f0.f2, .int .i64 (rd_T39 l (m : Int)).f0.f3, .bool (rd_T39 l (m : Int)).f0.f4, .int .i64 (rd_T39 l (m : Int)).f1, .int .i64 (rd_T39 l (m : Int)).f2]) := by rw [ha]; exact putSel_on (e := (4, 71, .agg #[.int .i64 (rd_T39 l (m : Int)).f0.f0, .int .i64 (rd_T39 l (m : Int)).f0.f1, .int .i64 (rd_T39 l (m : Int)).f0.f2, .int .i64 (rd_T39 l (m : Int)).f0.f3, .bool (rd_T39 l (m : Int)).f0.f4, .int .i64 (rd_T39 l (m : Int)).f1, .int .i64 (rd_T39 l (m : Int)).f2])) 4 rfl rfl (hon 4 (by kernel_rfl)) rfl
                      replace ha := Aside0.mk ha
                      have HBr := Aside0.mk Q_HBr
                      refine goes_ Try.func14 (by kernel_rfl) rfl #[.slice B1 (l.filter fun x => !p x).length n1, .agg #[.int .i64 (rd_T39 l (m : Int)).f0.f0, .int .i64 (rd_T39 l (m : Int)).f0.f1, .int .i64 (rd_T39 l (m : Int)).f0.f2, .int .i64 (rd_T39 l (m : Int)).f0.f3, .bool (rd_T39 l (m : Int)).f0.f4, .int .i64 (rd_T39 l (m : Int)).f1, .int .i64 (rd_T39 l (m : Int)).f2]] (by rfl) rfl rfl (by first | (simp only [List.map_toArray, List.map_cons, List.map_nil, Act.eval, Array.getD_eq_getD_getElem?, Option.getD_some, e67, e71]; done) | (simp only [List.map_toArray, List.map_cons, List.map_nil, Act.eval, Array.getD_eq_getD_getElem?, Option.getD_some, e67, e71]; rfl)) ?_
                      refine (HH1.out _ HBr.out).mono ?_
                      rintro e w1 ⟨rfl, hb1⟩
                      refine ⟨_, rfl, ?_⟩
                      refine hK.out _ _ ⟨(by rw [ha.out]; exact putSel_upk 5 hb_ rfl rfl rfl), below_step HBr.out hb1⟩
                    refine steps_cons ?_ ?_
                    · rintro b a w' ⟨ha, Q_HBr⟩ hb_ hon hoff
                      refine ⟨_, rfl, fun K hK => ?_⟩
                      have e7 : a.tmps[7]? = some (.slice B2 (l.filter p).length n2) := by rw [ha]; exact (putSel_off rfl).trans rfl
                      replace ha := Aside0.mk ha
                      have HBr := Aside0.mk Q_HBr
                      refine value_ (w1 := w') (v := .slice B2 (l.filter p).length n2) (by rfl) rfl ?_ ?_
                      · go_simp
                        (try simp only [i64_w])
                        try rfl
                      refine hK.out _ _ ⟨(by rw [ha.out]; exact putSel_upk 6 hb_ rfl rfl rfl), Q_HBr⟩
                    refine steps_cons ?_ ?_
                    · rintro b a w' ⟨ha, Q_HBr⟩ hb_ hon hoff
                      refine ⟨_, rfl, fun K hK => ?_⟩
                      have e0 : a.tmps[0]? = some (.slice (some ad) l.length c) := by rw [ha]; exact (putSel_off rfl).trans rfl
                      replace ha := Aside0.mk ha
                      have HBr := Aside0.mk Q_HBr
                      refine value_ (w1 := w') (v := .slice (some ad) l.length c) (by rfl) rfl ?_ ?_
                      · go_simp
                        (try simp only [i64_w])
                        try rfl
                      refine hK.out _ _ ⟨(by rw [ha.out]; exact putSel_upk 7 hb_ rfl rfl rfl), Q_HBr⟩
                    refine steps_cons ?_ ?_
                    · rintro b a w' ⟨ha, Q_HBr⟩ hb_ hon hoff
                      refine ⟨_, rfl, fun K hK => ?_⟩
                      have e8 : a.tmps[8]? = some (.int .i64 (m : Int)) := by rw [ha]; exact (putSel_off rfl).trans rfl
                      replace ha := Aside0.mk ha
                      have HBr := Aside0.mk Q_HBr
                      refine value_ (w1 := w') (v := .int .i64 (m : Int)) (by rfl) rfl ?_ ?_
                      · go_simp
                        (try simp only [i64_w])
                        try rfl
                      refine hK.out _ _ ⟨(by rw [ha.out]; exact putSel_upk 8 hb_ rfl rfl rfl), Q_HBr⟩
                    refine steps_cons ?_ ?_
                    · rintro b a w' ⟨ha, Q_HBr⟩ hb_ hon hoff
                      refine ⟨_, rfl, fun K hK => ?_⟩
                      have e74 : a.tmps[74]? = some (.slice (some ad) l.length c) := by rw [ha]; exact putSel_on (e := (7, 74, .slice (some ad) l.length c)) 7 rfl rfl (hon 7 (by kernel_rfl)) rfl
                      have e75 : a.tmps[75]? = some (.int .i64 (m : Int)) := by rw [ha]; exact putSel_on (e := (8, 75, .int .i64 (m : Int))) 8 rfl rfl (hon 8 (by kernel_rfl)) rfl
                      replace ha := Aside0.mk ha
                      have HBr := Aside0.mk Q_HBr
                      refine value_ (w1 := w') (v := .pointer (some (ad.add (m * 7)))) (by rfl) rfl ?_ ?_
                      · go_simp
                        (try simp only [i64_w])
                        try rfl
                      refine hK.out _ _ ⟨(by rw [ha.out]; exact putSel_upk 9 hb_ rfl rfl rfl), Q_HBr⟩
                    refine steps_cons ?_ ?_
                    · rintro b a w' ⟨ha, Q_HBr⟩ hb_ hon hoff
                      refine ⟨_, rfl, fun K hK => ?_⟩
                      have e76 : a.tmps[76]? = some (.pointer (some (ad.add (m * 7)))) := by rw [ha]; exact putSel_on (e := (9, 76, .pointer (some (ad.add (m * 7))))) 9 rfl rfl (hon 9 (by kernel_rfl)) rfl
                      replace ha := Aside0.mk ha
                      have HBr := Aside0.mk Q_HBr
                      have z0 := pw_cell_below HBr.out q0
                      have z1 := pw_cell_below HBr.out q1
                      have z2 := pw_cell_below HBr.out q2
                      have z3 := pw_cell_below HBr.out q3
                      have z4 := pw_cell_below HBr.out q4
                      have z5 := pw_cell_below HBr.out q5
                      have z6 := pw_cell_below HBr.out q6
                      refine value_ (w1 := w') (v := .agg #[.int .i64 (rd_T39 l (m : Int)).f0.f0, .int .i64 (rd_T39 l (m : Int)).f0.f1, .int .i64 (rd_T39 l (m : Int)).f0.f2, .int .i64 (rd_T39 l (m : Int)).f0.f3, .bool (rd_T39 l (m : Int)).f0.f4, .int .i64 (rd_T39 l (m : Int)).f1, .int .i64 (rd_T39 l (m : Int)).f2]) (by rfl) rfl ?_ ?_
                      · go_simp
                        (try simp only [i64_w])
                        try rfl
                      refine hK.out _ _ ⟨(by rw [ha.out]; exact putSel_upk 10 hb_ rfl rfl rfl), Q_HBr⟩
                    refine steps_cons ?_ ?_
                    · rintro b a w' ⟨ha, Q_HBr⟩ hb_ hon hoff
                      refine ⟨_, rfl, fun K hK => ?_⟩
                      have e73 : a.tmps[73]? = some (.slice B2 (l.filter p).length n2) := by rw [ha]; exact putSel_on (e := (6, 73, .slice B2 (l.filter p).length n2)) 6 rfl rfl (hon 6 (by kernel_rfl)) rfl
                      have e77 : a.tmps[77]? = some (.agg #[.int .i64 (rd_T39 l (m : Int)).f0.f0, .int .i64 (rd_T39 l (m : Int)).f0.f1, .int .i64 (rd_T39 l (m : Int)).f0.f2, .int .i64 (rd_T39 l (m : Int)).f0.f3, .bool (rd_T39 l (m : Int)).f0.f4, .int .i64 (rd_T39 l (m : Int)).f1, .int .i64 (rd_T39 l (m : Int)).f2]) := by rw [ha]; exact putSel_on (e := (10, 77, .agg #[.int .i64 (rd_T39 l (m : Int)).f0.f0, .int .i64 (rd_T39 l (m : Int)).f0.f1, .int .i64 (rd_T39 l (m : Int)).f0.f2, .int .i64 (rd_T39 l (m : Int)).f0.f3, .bool (rd_T39 l (m : Int)).f0.f4, .int .i64 (rd_T39 l (m : Int)).f1, .int .i64 (rd_T39 l (m : Int)).f2])) 10 rfl rfl (hon 10 (by kernel_rfl)) rfl
                      replace ha := Aside0.mk ha
                      have HBr := Aside0.mk Q_HBr
                      refine goes_ Try.func14 (by kernel_rfl) rfl #[.slice B2 (l.filter p).length n2, .agg #[.int .i64 (rd_T39 l (m : Int)).f0.f0, .int .i64 (rd_T39 l (m : Int)).f0.f1, .int .i64 (rd_T39 l (m : Int)).f0.f2, .int .i64 (rd_T39 l (m : Int)).f0.f3, .bool (rd_T39 l (m : Int)).f0.f4, .int .i64 (rd_T39 l (m : Int)).f1, .int .i64 (rd_T39 l (m : Int)).f2]] (by rfl) rfl rfl (by first | (simp only [List.map_toArray, List.map_cons, List.map_nil, Act.eval, Array.getD_eq_getD_getElem?, Option.getD_some, e73, e77]; done) | (simp only [List.map_toArray, List.map_cons, List.map_nil, Act.eval, Array.getD_eq_getD_getElem?, Option.getD_some, e73, e77]; rfl)) ?_
                      refine (HH2.out _ HBr.out).mono ?_
                      rintro e w1 ⟨rfl, hb1⟩
                      refine ⟨_, rfl, ?_⟩
                      refine hK.out _ _ ⟨(by rw [ha.out]; exact putSel_upk 11 hb_ rfl rfl rfl), below_step HBr.out hb1⟩
                    refine steps_cons ?_ ?_
                    · rintro b a w' ⟨ha, Q_HBr⟩ hb_ hon hoff
                      refine ⟨_, rfl, fun K hK => ?_⟩
                      have e72 : a.tmps[72]? = some (.int .i64 0) := by rw [ha]; exact putSel_on (e := (5, 72, .int .i64 0)) 5 rfl rfl (hon 5 (by kernel_rfl)) rfl
                      have e78 : a.tmps[78]? = some (.int .i64 z) := by rw [ha]; exact putSel_on (e := (11, 78, .int .i64 z)) 11 rfl rfl (hon 11 (by kernel_rfl)) rfl
                      replace ha := Aside0.mk ha
                      have HBr := Aside0.mk Q_HBr
                      refine value_ (w1 := w') (v := .int .i64 z) (by rfl) rfl ?_ ?_
                      · go_simp
                        (try simp only [i64_w])
                        try rfl
                      refine hK.out _ _ ⟨(by rw [ha.out]; exact putSel_upk 12 hb_ rfl rfl rfl), Q_HBr⟩
                    refine steps_cons ?_ ?_
                    · rintro b a w' ⟨ha, Q_HBr⟩ hb_ hon hoff
                      refine ⟨_, rfl, fun K hK => ?_⟩
                      have e0 : a.tmps[0]? = some (.slice (some ad) l.length c) := by rw [ha]; exact (putSel_off rfl).trans rfl
                      replace ha := Aside0.mk ha
                      have HBr := Aside0.mk Q_HBr
                      refine value_ (w1 := w') (v := .slice (some ad) l.length c) (by rfl) rfl ?_ ?_
                      · go_simp
                        (try simp only [i64_w])
                        try rfl
                      refine hK.out _ _ ⟨(by rw [ha.out]; exact putSel_upk 13 hb_ rfl rfl rfl), Q_HBr⟩
                    refine steps_cons ?_ ?_
                    · rintro b a w' ⟨ha, Q_HBr⟩ hb_ hon hoff
                      refine ⟨_, rfl, fun K hK => ?_⟩
                      have e0 : a.tmps[0]? = some (.slice (some ad) l.length c) := by rw [ha]; exact (putSel_off rfl).trans rfl
                      replace ha := Aside0.mk ha
                      have HBr := Aside0.mk Q_HBr
                      refine value_ (w1 := w') (v := .slice (some ad) l.length c) (by rfl) rfl ?_ ?_
                      · go_simp
                        (try simp only [i64_w])
                        try rfl
                      refine hK.out _ _ ⟨(by rw [ha.out]; exact putSel_upk 14 hb_ rfl rfl rfl), Q_HBr⟩
                    refine steps_cons ?_ ?_
                    · rintro b a w' ⟨ha, Q_HBr⟩ hb_ hon hoff
                      refine ⟨_, rfl, fun K hK => ?_⟩
                      have e8 : a.tmps[8]? = some (.int .i64 (m : Int)) := by rw [ha]; exact (putSel_off rfl).trans rfl
                      replace ha := Aside0.mk ha
                      have HBr := Aside0.mk Q_HBr
                      refine value_ (w1 := w') (v := .int .i64 (m : Int)) (by rfl) rfl ?_ ?_
                      · go_simp
                        (try simp only [i64_w])
                        try rfl
                      refine hK.out _ _ ⟨(by rw [ha.out]; exact putSel_upk 15 hb_ rfl rfl rfl), Q_HBr⟩
                    refine steps_cons ?_ ?_
                    · rintro b a w' ⟨ha, Q_HBr⟩ hb_ hon hoff
                      refine ⟨_, rfl, fun K hK => ?_⟩
                      have e81 : a.tmps[81]? = some (.slice (some ad) l.length c) := by rw [ha]; exact putSel_on (e := (14, 81, .slice (some ad) l.length c)) 14 rfl rfl (hon 14 (by kernel_rfl)) rfl
                      have e82 : a.tmps[82]? = some (.int .i64 (m : Int)) := by rw [ha]; exact putSel_on (e := (15, 82, .int .i64 (m : Int))) 15 rfl rfl (hon 15 (by kernel_rfl)) rfl
                      replace ha := Aside0.mk ha
                      have HBr := Aside0.mk Q_HBr
                      refine value_ (w1 := w') (v := .pointer (some (ad.add (m * 7)))) (by rfl) rfl ?_ ?_
                      · go_simp
                        (try simp only [i64_w])
                        try rfl
                      refine hK.out _ _ ⟨(by rw [ha.out]; exact putSel_upk 16 hb_ rfl rfl rfl), Q_HBr⟩
                    refine steps_cons ?_ ?_
                    · rintro b a w' ⟨ha, Q_HBr⟩ hb_ hon hoff
                      refine ⟨_, rfl, fun K hK => ?_⟩
                      have e83 : a.tmps[83]? = some (.pointer (some (ad.add (m * 7)))) := by rw [ha]; exact putSel_on (e := (16, 83, .pointer (some (ad.add (m * 7))))) 16 rfl rfl (hon 16 (by kernel_rfl)) rfl
                      replace ha := Aside0.mk ha
                      have HBr := Aside0.mk Q_HBr
                      have z0 := pw_cell_below HBr.out q0
                      have z1 := pw_cell_below HBr.out q1
                      have z2 := pw_cell_below HBr.out q2
                      have z3 := pw_cell_below HBr.out q3
                      have z4 := pw_cell_below HBr.out q4
                      have z5 := pw_cell_below HBr.out q5
                      have z6 := pw_cell_below HBr.out q6
                      refine value_ (w1 := w') (v := .agg #[.int .i64 (rd_T39 l (m : Int)).f0.f0, .int .i64 (rd_T39 l (m : Int)).f0.f1, .int .i64 (rd_T39 l (m : Int)).f0.f2, .int .i64 (rd_T39 l (m : Int)).f0.f3, .bool (rd_T39 l (m : Int)).f0.f4, .int .i64 (rd_T39 l (m : Int)).f1, .int .i64 (rd_T39 l (m : Int)).f2]) (by rfl) rfl ?_ ?_
                      · go_simp
                        (try simp only [i64_w])
                        try rfl
                      refine hK.out _ _ ⟨(by rw [ha.out]; exact putSel_upk 17 hb_ rfl rfl rfl), Q_HBr⟩
                    refine steps_cons ?_ ?_
                    · rintro b a w' ⟨ha, Q_HBr⟩ hb_ hon hoff
                      refine ⟨_, rfl, fun K hK => ?_⟩
                      have e80 : a.tmps[80]? = some (.slice (some ad) l.length c) := by rw [ha]; exact putSel_on (e := (13, 80, .slice (some ad) l.length c)) 13 rfl rfl (hon 13 (by kernel_rfl)) rfl
                      have e84 : a.tmps[84]? = some (.agg #[.int .i64 (rd_T39 l (m : Int)).f0.f0, .int .i64 (rd_T39 l (m : Int)).f0.f1, .int .i64 (rd_T39 l (m : Int)).f0.f2, .int .i64 (rd_T39 l (m : Int)).f0.f3, .bool (rd_T39 l (m : Int)).f0.f4, .int .i64 (rd_T39 l (m : Int)).f1, .int .i64 (rd_T39 l (m : Int)).f2]) := by rw [ha]; exact putSel_on (e := (17, 84, .agg #[.int .i64 (rd_T39 l (m : Int)).f0.f0, .int .i64 (rd_T39 l (m : Int)).f0.f1, .int .i64 (rd_T39 l (m : Int)).f0.f2, .int .i64 (rd_T39 l (m : Int)).f0.f3, .bool (rd_T39 l (m : Int)).f0.f4, .int .i64 (rd_T39 l (m : Int)).f1, .int .i64 (rd_T39 l (m : Int)).f2])) 17 rfl rfl (hon 17 (by kernel_rfl)) rfl
                      replace ha := Aside0.mk ha
                      have HBr := Aside0.mk Q_HBr
                      refine goes_ Try.func14 (by kernel_rfl) rfl #[.slice (some ad) l.length c, .agg #[.int .i64 (rd_T39 l (m : Int)).f0.f0, .int .i64 (rd_T39 l (m : Int)).f0.f1, .int .i64 (rd_T39 l (m : Int)).f0.f2, .int .i64 (rd_T39 l (m : Int)).f0.f3, .bool (rd_T39 l (m : Int)).f0.f4, .int .i64 (rd_T39 l (m : Int)).f1, .int .i64 (rd_T39 l (m : Int)).f2]] (by rfl) rfl rfl (by first | (simp only [List.map_toArray, List.map_cons, List.map_nil, Act.eval, Array.getD_eq_getD_getElem?, Option.getD_some, e80, e84]; done) | (simp only [List.map_toArray, List.map_cons, List.map_nil, Act.eval, Array.getD_eq_getD_getElem?, Option.getD_some, e80, e84]; rfl)) ?_
                      refine (HHL.out _ HBr.out).mono ?_
                      rintro e w1 ⟨rfl, hb1⟩
                      refine ⟨_, rfl, ?_⟩
                      refine hK.out _ _ ⟨(by rw [ha.out]; exact putSel_upk 18 hb_ rfl rfl rfl), below_step HBr.out hb1⟩
                    refine steps_cons ?_ ?_
                    · rintro b a w' ⟨ha, Q_HBr⟩ hb_ hon hoff
                      refine ⟨_, rfl, fun K hK => ?_⟩
                      have e79 : a.tmps[79]? = some (.int .i64 z) := by rw [ha]; exact putSel_on (e := (12, 79, .int .i64 z)) 12 rfl rfl (hon 12 (by kernel_rfl)) rfl
                      have e85 : a.tmps[85]? = some (.int .i64 z) := by rw [ha]; exact putSel_on (e := (18, 85, .int .i64 z)) 18 rfl rfl (hon 18 (by kernel_rfl)) rfl
                      replace ha := Aside0.mk ha
                      have HBr := Aside0.mk Q_HBr
                      refine value_ (w1 := w') (v := .bool false) (by rfl) rfl ?_ ?_
                      · go_simp
                        (try simp only [i64_w])
                        try rfl
                      refine hK.out _ _ ⟨(by rw [ha.out]; exact putSel_upk 19 hb_ rfl rfl rfl), Q_HBr⟩
                    refine steps_cons ?_ ?_
                    · rintro b a w' ⟨ha, Q_HBr⟩ hb_ hon hoff
                      refine ⟨_, rfl, fun K hK => ?_⟩
                      have e86 : a.tmps[86]? = some (.bool false) := by rw [ha]; exact putSel_on (e := (19, 86, .bool false)) 19 rfl rfl (hon 19 (by kernel_rfl)) rfl
                      replace ha := Aside0.mk ha
                      have HBr := Aside0.mk Q_HBr
                      refine value_ (w1 := w') (v := .bool false) (by rfl) rfl ?_ ?_
                      · go_simp
                        (try simp only [i64_w])
                        try rfl
                      refine hK.out _ _ ⟨(by rw [ha.out]; exact putSel_upk 20 hb_ rfl rfl rfl), Q_HBr⟩
                    refine steps_cons ?_ ?_
                    · rintro b a w' ⟨ha, Q_HBr⟩ hb_ hon hoff
                      refine ⟨_, rfl, fun K hK => ?_⟩
                      have e6 : a.tmps[6]? = some (.slice B1 (l.filter fun x => !p x).length n1) := by rw [ha]; exact (putSel_off rfl).trans rfl
                      have e87 : a.tmps[87]? = some (.bool false) := by rw [ha]; exact putSel_on (e := (20, 87, .bool false)) 20 rfl rfl (hon 20 (by kernel_rfl)) rfl
                      replace ha := Aside0.mk ha
                      have HBr := Aside0.mk Q_HBr
                      refine value_ (w1 := w') (v := .slice B1 (l.filter fun x => !p x).length n1) (wanted_on rfl rfl rfl (e87.trans (by first | rfl | (simp [*]; done)))) rfl ?_ ?_
                      · go_simp
                        (try simp only [i64_w])
                        try rfl
                      refine hK.out _ _ ⟨(by rw [ha.out]; exact putSel_upk 21 hb_ rfl rfl rfl), Q_HBr⟩
                    refine steps_cons ?_ ?_
                    · rintro b a w' ⟨ha, Q_HBr⟩ hb_ hon hoff
                      refine ⟨_, rfl, fun K hK => ?_⟩
                      have e0 : a.tmps[0]? = some (.slice (some ad) l.length c) := by rw [ha]; exact (putSel_off rfl).trans rfl
                      have e87 : a.tmps[87]? = some (.bool false) := by rw [ha]; exact putSel_on (e := (20, 87, .bool false)) 20 rfl rfl (hon 20 (by kernel_rfl)) rfl
                      replace ha := Aside0.mk ha
                      have HBr := Aside0.mk Q_HBr
                      refine value_ (w1 := w') (v := .slice (some ad) l.length c) (wanted_on rfl rfl rfl (e87.trans (by first | rfl | (simp [*]; done)))) rfl ?_ ?_
                      · go_simp
                        (try simp only [i64_w])
                        try rfl
                      refine hK.out _ _ ⟨(by rw [ha.out]; exact putSel_upk 22 hb_ rfl rfl rfl), Q_HBr⟩
                    refine steps_cons ?_ ?_
                    · rintro b a w' ⟨ha, Q_HBr⟩ hb_ hon hoff
                      refine ⟨_, rfl, fun K hK => ?_⟩
                      have e8 : a.tmps[8]? = some (.int .i64 (m : Int)) := by rw [ha]; exact (putSel_off rfl).trans rfl
                      have e87 : a.tmps[87]? = some (.bool false) := by rw [ha]; exact putSel_on (e := (20, 87, .bool false)) 20 rfl rfl (hon 20 (by kernel_rfl)) rfl
                      replace ha := Aside0.mk ha
                      have HBr := Aside0.mk Q_HBr
                      refine value_ (w1 := w') (v := .int .i64 (m : Int)) (wanted_on rfl rfl rfl (e87.trans (by first | rfl | (simp [*]; done)))) rfl ?_ ?_
                      · go_simp
                        (try simp only [i64_w])
                        try rfl
                      refine hK.out _ _ ⟨(by rw [ha.out]; exact putSel_upk 23 hb_ rfl rfl rfl), Q_HBr⟩
                    refine steps_cons ?_ ?_
                    · rintro b a w' ⟨ha, Q_HBr⟩ hb_ hon hoff
                      refine ⟨_, rfl, fun K hK => ?_⟩
                      have e89 : a.tmps[89]? = some (.slice (some ad) l.length c) := by rw [ha]; exact putSel_on (e := (22, 89, .slice (some ad) l.length c)) 22 rfl rfl (hon 22 (by kernel_rfl)) rfl
                      have e90 : a.tmps[90]? = some (.int .i64 (m : Int)) := by rw [ha]; exact putSel_on (e := (23, 90, .int .i64 (m : Int))) 23 rfl rfl (hon 23 (by kernel_rfl)) rfl
                      have e87 : a.tmps[87]? = some (.bool false) := by rw [ha]; exact putSel_on (e := (20, 87, .bool false)) 20 rfl rfl (hon 20 (by kernel_rfl)) rfl
                      replace ha := Aside0.mk ha
                      have HBr := Aside0.mk Q_HBr
                      refine value_ (w1 := w') (v := .pointer (some (ad.add (m * 7)))) (wanted_on rfl rfl rfl (e87.trans (by first | rfl | (simp [*]; done)))) rfl ?_ ?_
                      · go_simp
                        (try simp only [i64_w])
                        try rfl
                      refine hK.out _ _ ⟨(by rw [ha.out]; exact putSel_upk 24 hb_ rfl rfl rfl), Q_HBr⟩
                    refine steps_cons ?_ ?_
                    · rintro b a w' ⟨ha, Q_HBr⟩ hb_ hon hoff
                      refine ⟨_, rfl, fun K hK => ?_⟩
                      have e91 : a.tmps[91]? = some (.pointer (some (ad.add (m * 7)))) := by rw [ha]; exact putSel_on (e := (24, 91, .pointer (some (ad.add (m * 7))))) 24 rfl rfl (hon 24 (by kernel_rfl)) rfl
                      have e87 : a.tmps[87]? = some (.bool false) := by rw [ha]; exact putSel_on (e := (20, 87, .bool false)) 20 rfl rfl (hon 20 (by kernel_rfl)) rfl
                      replace ha := Aside0.mk ha
                      have HBr := Aside0.mk Q_HBr
                      have z0 := pw_cell_below HBr.out q0
                      have z1 := pw_cell_below HBr.out q1
                      have z2 := pw_cell_below HBr.out q2
                      have z3 := pw_cell_below HBr.out q3
                      have z4 := pw_cell_below HBr.out q4
                      have z5 := pw_cell_below HBr.out q5
                      have z6 := pw_cell_below HBr.out q6
                      refine value_ (w1 := w') (v := .agg #[.int .i64 (rd_T39 l (m : Int)).f0.f0, .int .i64 (rd_T39 l (m : Int)).f0.f1, .int .i64 (rd_T39 l (m : Int)).f0.f2, .int .i64 (rd_T39 l (m : Int)).f0.f3, .bool (rd_T39 l (m : Int)).f0.f4, .int .i64 (rd_T39 l (m : Int)).f1, .int .i64 (rd_T39 l (m : Int)).f2]) (wanted_on rfl rfl rfl (e87.trans (by first | rfl | (simp [*]; done)))) rfl ?_ ?_
                      · go_simp
                        (try simp only [i64_w])
                        try rfl
                      refine hK.out _ _ ⟨(by rw [ha.out]; exact putSel_upk 25 hb_ rfl rfl rfl), Q_HBr⟩
                    refine steps_cons ?_ ?_
                    · rintro b a w' ⟨ha, Q_HBr⟩ hb_ hon hoff
                      refine ⟨_, rfl, fun K hK => ?_⟩
                      have e88 : a.tmps[88]? = some (.slice B1 (l.filter fun x => !p x).length n1) := by rw [ha]; exact putSel_on (e := (21, 88, .slice B1 (l.filter fun x => !p x).length n1)) 21 rfl rfl (hon 21 (by kernel_rfl)) rfl
                      have e92 : a.tmps[92]? = some (.agg #[.int .i64 (rd_T39 l (m : Int)).f0.f0, .int .i64 (rd_T39 l (m : Int)).f0.f1, .int .i64 (rd_T39 l (m : Int)).f0.f2, .int .i64 (rd_T39 l (m : Int)).f0.f3, .bool (rd_T39 l (m : Int)).f0.f4, .int .i64 (rd_T39 l (m : Int)).f1, .int .i64 (rd_T39 l (m : Int)).f2]) := by rw [ha]; exact putSel_on (e := (25, 92, .agg #[.int .i64 (rd_T39 l (m : Int)).f0.f0, .int .i64 (rd_T39 l (m : Int)).f0.f1, .int .i64 (rd_T39 l (m : Int)).f0.f2, .int .i64 (rd_T39 l (m : Int)).f0.f3, .bool (rd_T39 l (m : Int)).f0.f4, .int .i64 (rd_T39 l (m : Int)).f1, .int .i64 (rd_T39 l (m : Int)).f2])) 25 rfl rfl (hon 25 (by kernel_rfl)) rfl
                      have e87 : a.tmps[87]? = some (.bool false) := by rw [ha]; exact putSel_on (e := (20, 87, .bool false)) 20 rfl rfl (hon 20 (by kernel_rfl)) rfl
                      replace ha := Aside0.mk ha
                      have HBr := Aside0.mk Q_HBr
                      refine goes_ Try.func14 (by kernel_rfl) rfl #[.slice B1 (l.filter fun x => !p x).length n1, .agg #[.int .i64 (rd_T39 l (m : Int)).f0.f0, .int .i64 (rd_T39 l (m : Int)).f0.f1, .int .i64 (rd_T39 l (m : Int)).f0.f2, .int .i64 (rd_T39 l (m : Int)).f0.f3, .bool (rd_T39 l (m : Int)).f0.f4, .int .i64 (rd_T39 l (m : Int)).f1, .int .i64 (rd_T39 l (m : Int)).f2]] (wanted_on rfl rfl rfl (e87.trans (by first | rfl | (simp [*]; done)))) rfl rfl (by first | (simp only [List.map_toArray, List.map_cons, List.map_nil, Act.eval, Array.getD_eq_getD_getElem?, Option.getD_some, e88, e92, e87]; done) | (simp only [List.map_toArray, List.map_cons, List.map_nil, Act.eval, Array.getD_eq_getD_getElem?, Option.getD_some, e88, e92, e87]; rfl)) ?_
                      refine (HH1.out _ HBr.out).mono ?_
                      rintro e w1 ⟨rfl, hb1⟩
                      refine ⟨_, rfl, ?_⟩
                      refine hK.out _ _ ⟨(by rw [ha.out]; exact putSel_upk 26 hb_ rfl rfl rfl), below_step HBr.out hb1⟩
                    refine steps_cons ?_ ?_
                    · rintro b a w' ⟨ha, Q_HBr⟩ hb_ hon hoff
                      refine ⟨_, rfl, fun K hK => ?_⟩
                      have e93 : a.tmps[93]? = some (.int .i64 0) := by rw [ha]; exact putSel_on (e := (26, 93, .int .i64 0)) 26 rfl rfl (hon 26 (by kernel_rfl)) rfl
                      have e87 : a.tmps[87]? = some (.bool false) := by rw [ha]; exact putSel_on (e := (20, 87, .bool false)) 20 rfl rfl (hon 20 (by kernel_rfl)) rfl
                      replace ha := Aside0.mk ha
                      have HBr := Aside0.mk Q_HBr
                      refine value_ (w1 := w') (v := .bool false) (wanted_on rfl rfl rfl (e87.trans (by first | rfl | (simp [*]; done)))) rfl ?_ ?_
                      · go_simp
                        (try simp only [i64_w])
                        try rfl
                      refine hK.out _ _ ⟨(by rw [ha.out]; exact putSel_upk 27 hb_ rfl rfl rfl), Q_HBr⟩
                    refine steps_cons ?_ ?_
                    · rintro b a w' ⟨ha, Q_HBr⟩ hb_ hon hoff
                      refine ⟨_, rfl, fun K hK => ?_⟩
                      have e94 : a.tmps[94]? = some (.bool false) := by rw [ha]; exact putSel_on (e := (27, 94, .bool false)) 27 rfl rfl (hon 27 (by kernel_rfl)) rfl
                      have e87 : a.tmps[87]? = some (.bool false) := by rw [ha]; exact putSel_on (e := (20, 87, .bool false)) 20 rfl rfl (hon 20 (by kernel_rfl)) rfl
                      replace ha := Aside0.mk ha
                      have HBr := Aside0.mk Q_HBr
                      refine value_ (w1 := w') (v := .bool false) (wanted_on rfl rfl rfl (e87.trans (by first | rfl | (simp [*]; done)))) rfl ?_ ?_
                      · go_simp
                        (try simp only [i64_w])
                        try rfl
                      refine hK.out _ _ ⟨(by rw [ha.out]; exact putSel_upk 28 hb_ rfl rfl rfl), Q_HBr⟩
                    refine steps_cons ?_ ?_
                    · rintro b a w' ⟨ha, Q_HBr⟩ hb_ hon hoff
                      refine ⟨_, rfl, fun K hK => ?_⟩
                      have e95 : a.tmps[95]? = some (.bool false) := by rw [ha]; exact putSel_on (e := (28, 95, .bool false)) 28 rfl rfl (hon 28 (by kernel_rfl)) rfl
                      replace ha := Aside0.mk ha
                      have HBr := Aside0.mk Q_HBr
                      refine off_ (wanted_off rfl rfl rfl (e95.trans (by first | rfl | (simp [*]; done)))) ?_
                      refine hK.out _ _ ⟨(by rw [ha.out]; exact putSel_upk 29 hb_ rfl rfl rfl), Q_HBr⟩
                    refine steps_cons ?_ ?_
                    · rintro b a w' ⟨ha, Q_HBr⟩ hb_ hon hoff
                      refine ⟨_, rfl, fun K hK => ?_⟩
                      have e95 : a.tmps[95]? = some (.bool false) := by rw [ha]; exact putSel_on (e := (28, 95, .bool false)) 28 rfl rfl (hon 28 (by kernel_rfl)) rfl
                      replace ha := Aside0.mk ha
                      have HBr := Aside0.mk Q_HBr
                      refine off_ (wanted_off rfl rfl rfl (e95.trans (by first | rfl | (simp [*]; done)))) ?_
                      refine hK.out _ _ ⟨(by rw [ha.out]; exact putSel_upk 30 hb_ rfl rfl rfl), Q_HBr⟩
                    refine steps_cons ?_ ?_
                    · rintro b a w' ⟨ha, Q_HBr⟩ hb_ hon hoff
                      refine ⟨_, rfl, fun K hK => ?_⟩
                      have e95 : a.tmps[95]? = some (.bool false) := by rw [ha]; exact putSel_on (e := (28, 95, .bool false)) 28 rfl rfl (hon 28 (by kernel_rfl)) rfl
                      replace ha := Aside0.mk ha
                      have HBr := Aside0.mk Q_HBr
                      refine off_ (wanted_off rfl rfl rfl (e95.trans (by first | rfl | (simp [*]; done)))) ?_
                      refine hK.out _ _ ⟨(by rw [ha.out]; exact putSel_upk 31 hb_ rfl rfl rfl), Q_HBr⟩
                    refine steps_cons ?_ ?_
                    · rintro b a w' ⟨ha, Q_HBr⟩ hb_ hon hoff
                      refine ⟨_, rfl, fun K hK => ?_⟩
                      have e95 : a.tmps[95]? = some (.bool false) := by rw [ha]; exact putSel_on (e := (28, 95, .bool false)) 28 rfl rfl (hon 28 (by kernel_rfl)) rfl
                      replace ha := Aside0.mk ha
                      have HBr := Aside0.mk Q_HBr
                      refine off_ (wanted_off rfl rfl rfl (e95.trans (by first | rfl | (simp [*]; done)))) ?_
                      refine hK.out _ _ ⟨(by rw [ha.out]; exact putSel_upk 32 hb_ rfl rfl rfl), Q_HBr⟩
                    refine steps_cons ?_ ?_
                    · rintro b a w' ⟨ha, Q_HBr⟩ hb_ hon hoff
                      refine ⟨_, rfl, fun K hK => ?_⟩
                      have e95 : a.tmps[95]? = some (.bool false) := by rw [ha]; exact putSel_on (e := (28, 95, .bool false)) 28 rfl rfl (hon 28 (by kernel_rfl)) rfl
                      replace ha := Aside0.mk ha
                      have HBr := Aside0.mk Q_HBr
                      refine off_ (wanted_off rfl rfl rfl (e95.trans (by first | rfl | (simp [*]; done)))) ?_
                      refine hK.out _ _ ⟨(by rw [ha.out]; exact putSel_upk 33 hb_ rfl rfl rfl), Q_HBr⟩
                    refine steps_cons ?_ ?_
                    · rintro b a w' ⟨ha, Q_HBr⟩ hb_ hon hoff
                      refine ⟨_, rfl, fun K hK => ?_⟩
                      have e95 : a.tmps[95]? = some (.bool false) := by rw [ha]; exact putSel_on (e := (28, 95, .bool false)) 28 rfl rfl (hon 28 (by kernel_rfl)) rfl
                      replace ha := Aside0.mk ha
                      have HBr := Aside0.mk Q_HBr
                      refine off_ (wanted_off rfl rfl rfl (e95.trans (by first | rfl | (simp [*]; done)))) ?_
                      refine hK.out _ _ ⟨(by rw [ha.out]; exact putSel_upk 34 hb_ rfl rfl rfl), Q_HBr⟩
                    refine steps_cons ?_ ?_
                    · rintro b a w' ⟨ha, Q_HBr⟩ hb_ hon hoff
                      refine ⟨_, rfl, fun K hK => ?_⟩
                      have e95 : a.tmps[95]? = some (.bool false) := by rw [ha]; exact putSel_on (e := (28, 95, .bool false)) 28 rfl rfl (hon 28 (by kernel_rfl)) rfl
                      replace ha := Aside0.mk ha
                      have HBr := Aside0.mk Q_HBr
                      refine off_ (wanted_off rfl rfl rfl (e95.trans (by first | rfl | (simp [*]; done)))) ?_
                      refine hK.out _ _ ⟨(by rw [ha.out]; exact putSel_upk 35 hb_ rfl rfl rfl), Q_HBr⟩
                    refine steps_cons ?_ ?_
                    · rintro b a w' ⟨ha, Q_HBr⟩ hb_ hon hoff
                      refine ⟨_, rfl, fun K hK => ?_⟩
                      have e95 : a.tmps[95]? = some (.bool false) := by rw [ha]; exact putSel_on (e := (28, 95, .bool false)) 28 rfl rfl (hon 28 (by kernel_rfl)) rfl
                      have e102 : a.tmps[102]? = some (undef) := by rw [ha]; exact putSel_on (e := (35, 102, undef)) 35 rfl rfl (hon 35 (by kernel_rfl)) rfl
                      have e87 : a.tmps[87]? = some (.bool false) := by rw [ha]; exact putSel_on (e := (20, 87, .bool false)) 20 rfl rfl (hon 20 (by kernel_rfl)) rfl
                      replace ha := Aside0.mk ha
                      have HBr := Aside0.mk Q_HBr
                      refine value_ (w1 := w') (v := .bool false) (wanted_on rfl rfl rfl (e87.trans (by first | rfl | (simp [*]; done)))) rfl ?_ ?_
                      · go_simp
                        (try simp only [i64_w])
                        try rfl
                      refine hK.out _ _ ⟨(by rw [ha.out]; exact putSel_upk 36 hb_ rfl rfl rfl), Q_HBr⟩
                    refine steps_cons ?_ ?_
                    · rintro b a w' ⟨ha, Q_HBr⟩ hb_ hon hoff
                      refine ⟨_, rfl, fun K hK => ?_⟩
                      have e87 : a.tmps[87]? = some (.bool false) := by rw [ha]; exact putSel_on (e := (20, 87, .bool false)) 20 rfl rfl (hon 20 (by kernel_rfl)) rfl
                      have e103 : a.tmps[103]? = some (.bool false) := by rw [ha]; exact putSel_on (e := (36, 103, .bool false)) 36 rfl rfl (hon 36 (by kernel_rfl)) rfl
                      replace ha := Aside0.mk ha
                      have HBr := Aside0.mk Q_HBr
                      refine value_ (w1 := w') (v := .bool false) (by rfl) rfl ?_ ?_
                      · go_simp
                        (try simp only [i64_w])
                        try rfl
                      refine hK.out _ _ ⟨(by rw [ha.out]; exact putSel_upk 37 hb_ rfl rfl rfl), Q_HBr⟩
                    exact steps_nil
                  · rintro b a w' hall ⟨ha, Q_HBr⟩
                    clear HBr
                    have hb0_ := hall 0 (by kernel_rfl)
                    have hb1_ := hall 1 (by kernel_rfl)
                    have hb2_ := hall 2 (by kernel_rfl)
                    have hb3_ := hall 3 (by kernel_rfl)
                    have hb4_ := hall 4 (by kernel_rfl)
                    have hb5_ := hall 5 (by kernel_rfl)
                    have hb6_ := hall 6 (by kernel_rfl)
                    have hb7_ := hall 7 (by kernel_rfl)
                    have hb8_ := hall 8 (by kernel_rfl)
                    have hb9_ := hall 9 (by kernel_rfl)
                    have hb10_ := hall 10 (by kernel_rfl)
                    have hb11_ := hall 11 (by kernel_rfl)
                    have hb12_ := hall 12 (by kernel_rfl)
                    have hb13_ := hall 13 (by kernel_rfl)
                    have hb14_ := hall 14 (by kernel_rfl)
                    have hb15_ := hall 15 (by kernel_rfl)
                    have hb16_ := hall 16 (by kernel_rfl)
                    have hb17_ := hall 17 (by kernel_rfl)
                    have hb18_ := hall 18 (by kernel_rfl)
                    have hb19_ := hall 19 (by kernel_rfl)
                    have hb20_ := hall 20 (by kernel_rfl)
                    have hb21_ := hall 21 (by kernel_rfl)
                    have hb22_ := hall 22 (by kernel_rfl)
                    have hb23_ := hall 23 (by kernel_rfl)
                    have hb24_ := hall 24 (by kernel_rfl)
                    have hb25_ := hall 25 (by kernel_rfl)
                    have hb26_ := hall 26 (by kernel_rfl)
                    have hb27_ := hall 27 (by kernel_rfl)
                    have hb28_ := hall 28 (by kernel_rfl)
                    have hb29_ := hall 29 (by kernel_rfl)
                    have hb30_ := hall 30 (by kernel_rfl)
                    have hb31_ := hall 31 (by kernel_rfl)
                    have hb32_ := hall 32 (by kernel_rfl)
                    have hb33_ := hall 33 (by kernel_rfl)
                    have hb34_ := hall 34 (by kernel_rfl)
                    have hb35_ := hall 35 (by kernel_rfl)
                    have hb36_ := hall 36 (by kernel_rfl)
                    have hb37_ := hall 37 (by kernel_rfl)
                    subst ha
                    simp only [putSel, hb0_, hb1_, hb2_, hb3_, hb4_, hb5_, hb6_, hb7_, hb8_, hb9_, hb10_, hb11_, hb12_, hb13_, hb14_, hb15_, hb16_, hb17_, hb18_, hb19_, hb20_, hb21_, hb22_, hb23_, hb24_, hb25_, hb26_, hb27_, hb28_, hb29_, hb30_, hb31_, hb32_, hb33_, hb34_, hb35_, hb36_, hb37_, if_true, Act.put, List.setIfInBounds_toArray, List.set_cons_zero, List.set_cons_succ]
                    have HBr := Aside0.mk Q_HBr
                    clear Q_HBr
                    clear hall hb0_ hb1_ hb2_ hb3_ hb4_ hb5_ hb6_ hb7_ hb8_ hb9_ hb10_ hb11_ hb12_ hb13_ hb14_ hb15_ hb16_ hb17_ hb18_ hb19_ hb20_ hb21_ hb22_ hb23_ hb24_ hb25_ hb26_ hb27_ hb28_ hb29_ hb30_ hb31_ hb32_ hb33_ hb34_ hb35_ hb36_ hb37_
                    go_wp2
                    go_roundw
                    case rel => first | exact ⟨m + 1, by omega, by go_num, below_step hbr HBr.out⟩ | ((repeat apply Exists.intro); exact ⟨⟨m + 1, by omega, by go_num, below_step hbr HBr.out⟩, rfl⟩)
                    case measure => simp [intOf]; omega
            · have hm' : m = l.length := by omega
              replace x0 := pw_cell_below hbr x0
              replace x1 := pw_cell_below hbr x1
              replace x2 := pw_cell_below hbr x2
              replace x3 := pw_cell_below hbr x3
              have HBN := Aside0.mk (below_step HB3.out hbr)
              clear hbr
              go_wp2
              go_roundw
              case rel => exact ⟨n + 1, by omega, by go_num, HBN, x0, x1, x2, x3⟩
              case measure => simp [intOf]; omega
  · clear hg
    go_wp2
    go_ret
    exact ⟨rfl, hb4⟩
end Go.Proofs.Ytcnhjbpgjemnhaa.Sv
