/- AnnalsExact. (Partly printed by gen_exact.py.) -/
import Derived.Test.YtpejloegidailaaDoorAnQ
import Derived.Test.YtpejloegidailaaDoorAnH
namespace Go.Proofs.YtpejloegidailaaDoor.An
open Go.RowKit Go.Proofs.YtpejloegidailaaDoorW.PrintWords Go.Proofs.YtpejloegidailaaDoorW.PrintLast Go.Proofs.YtpejloegidailaaDoorW.PrintMore Go.Proofs.YtpejloegidailaaDoor.X
set_option linter.unusedVariables false
set_option linter.unusedSimpArgs false

def rowsL (es : List Ev) : List Rw := match rowsM es with
  | .ok st => st
  | .error _ => []
def rowsN (es : List Ev) : Int := match rowsM es with
  | .ok _ => 0
  | .error n => n
def CodeIs (s : Nat → Addr) (w : World) (v : Value) (c : Int) : Prop := (v = .nilIface ∧ c = 0) ∨ ∃ (g : Nat) (p : Int) (n : Nat), v = AtPlace g ∧ n < 11 ∧ c = (n : Int) + 1 ∧ w.heap[g]? = some (.cells #[.int .i64 p, Sent (s (n + 1))] 77 (0, 0))
theorem CodeIs_below {s : Nat → Addr} {w w1 : World} {v : Value} {c : Int} (h : CodeIs s w v c) (hb : Below w.heap.size w w1) : CodeIs s w1 v c := by
  rcases h with h | ⟨g, p, n, h1, h2, h3, h4⟩
  · exact .inl h
  · exact .inr ⟨g, p, n, h1, h2, h3, blk_below hb h4⟩
theorem code_b {s : Nat → Addr} {w : World} {v : Value} {c : Int} (h : CodeIs s w v c) (hs : Wo.Sents w s) : Calls Tryd.prog 20 #[v] w fun e w' => e = .returned (.int .i64 c) ∧ w' = w := by
  rcases h with ⟨rfl, rfl⟩ | ⟨g, p, n, rfl, hn, rfl, h4⟩
  · exact Wo.code_nil w
  · exact Wo.code_at hs n hn h4
theorem rows_b {s : Nat → Addr} {es : List Ev} {v : Value} {w : World} (hE : Sl k44 w v es) (hlim : es.length ≤ 1000000) (hwf : ∀ e ∈ es, I64 e.f0) (hs : Wo.Sents w s) :
    Calls Tryd.prog 9 #[v] w fun e w' => ∃ va ve, e = .returned (.tuple #[va, ve]) ∧ Sl k40 w' va (rowsL es) ∧ CodeIs s w' ve (rowsN es) ∧ Below w.heap.size w w' := by
  have hA : w.cell? ⟨0, 0, none⟩ = some (Sent (s 1)) := hs.cell 0 (by decide)
  have hS : w.cell? ⟨1, 0, none⟩ = some (Sent (s 5)) := hs.cell 4 (by decide)
  cases hr : rowsM es with
  | ok st =>
    refine (rows_ok hr hE hlim hwf hA hS).mono ?_
    rintro e w1 ⟨u, rfl, hR, hb⟩
    exact ⟨u, _, rfl, by unfold rowsL; rw [hr]; exact Sl_R hR, .inl ⟨rfl, by unfold rowsN; rw [hr]⟩, hb⟩
  | error n =>
    refine (rows_no hr hE hlim hwf hA hS).mono ?_
    rintro e w1 ⟨g, p, rfl, hn, hg, hb⟩
    refine ⟨_, _, rfl, by unfold rowsL; rw [hr]; exact Sl_nil _ _, ?_, hb⟩
    unfold rowsN
    rw [hr]
    rcases hn with rfl | rfl
    · exact .inr ⟨g, p, 0, rfl, by decide, rfl, hg⟩
    · exact .inr ⟨g, p, 4, rfl, by decide, rfl, hg⟩
theorem rrows_b {es : List Ev} {v : Value} {w : World} (hE : Sl k44 w v es) (hlim : es.length ≤ 1000000) :
    Calls Tryd.prog 16 #[v] w fun e w' => ∃ vb, e = .returned (.tuple #[vb, .int .i64 (rowsN es)]) ∧ Sl k40 w' vb (rowsL es) ∧ Below w.heap.size w w' := by
  obtain ⟨A, c, rfl, hc, hE⟩ := hE
  refine (rrows_c A c es w hE hlim).mono ?_
  rintro e w1 ⟨⟨st, u, hr, rfl, hR⟩ | ⟨n, hr, rfl⟩, hb⟩
  · exact ⟨u, by unfold rowsN; rw [hr], by unfold rowsL; rw [hr]; exact Sl_R hR, hb⟩
  · exact ⟨_, by unfold rowsN; rw [hr], by unfold rowsL; rw [hr]; exact Sl_nil _ _, hb⟩
def ofL (l : List Rw) : List Ev := (ofM l).getD []
theorem rof_b {l : List Rw} {v : Value} {w : World} (hE : Sl k40 w v l) (hlim : l.length ≤ 400000) :
    Calls Tryd.prog 17 #[v] w fun e w' => ∃ vd, e = .returned (.tuple #[vd, .bool (ofM l).isSome]) ∧ Sl k44 w' vd (ofL l) ∧ Below w.heap.size w w' := by
  obtain ⟨A, c, rfl, hc, hE⟩ := hE
  refine (rof_c A c l w hE hc hlim).mono ?_
  rintro e w1 ⟨⟨out, u, hr, rfl, hR⟩ | ⟨hr, rfl⟩, hb⟩
  · exact ⟨u, by rw [hr]; rfl, by unfold ofL; rw [hr]; exact Sl_R hR, hb⟩
  · exact ⟨_, by rw [hr]; rfl, by unfold ofL; rw [hr]; exact Sl_nil _ _, hb⟩
theorem rsame_y {u v : Value} {a : List Rw} {w : World} (ha : Sl k40 w u a) (hb : Sl k40 w v a) : Calls Tryd.prog 19 #[u, v] w fun e w' => e = .returned (.bool true) ∧ Below w.heap.size w w' := by
  have h := rsame_c ha hb
  rw [decide_eq_true rfl] at h
  exact h
theorem events_b {l : List Bt} {v : Value} {w : World} (h : Sl k48 w v l) (hlim : l.length ≤ 1000000) : Calls Tryd.prog 15 #[v] w fun e w' => ∃ u, e = .returned u ∧ Sl k44 w' u (evsM l) ∧ Below w.heap.size w w' := by
  obtain ⟨A, c, rfl, _, h⟩ := h
  refine (events_c A c l w h hlim).mono ?_
  rintro e w1 ⟨u, rfl, hR, hb⟩
  exact ⟨u, rfl, Sl_R hR, hb⟩
theorem revents_b {l : List Bt} {v : Value} {w : World} (h : Sl k48 w v l) (hlim : l.length ≤ 1000000) : Calls Tryd.prog 18 #[v] w fun e w' => ∃ u, e = .returned u ∧ Sl k44 w' u (evsM l) ∧ Below w.heap.size w w' := by
  obtain ⟨A, c, rfl, _, h⟩ := h
  refine (revents_c A c l w h hlim).mono ?_
  rintro e w1 ⟨u, rfl, hR, hb⟩
  exact ⟨u, rfl, Sl_R hR, hb⟩
theorem rwhole_b {l : List Rw} {v : Value} {w : World} (h : Sl k40 w v l) (hlim : l.length ≤ 1000000) : Calls Tryd.prog 22 #[v] w fun e w' => ∃ u, e = .returned u ∧ Sl k40 w' u (wholeM l) ∧ Below w.heap.size w w' := by
  obtain ⟨A, c, rfl, _, h⟩ := h
  refine (rwhole_c A c l w h hlim).mono ?_
  rintro e w1 ⟨u, rfl, hR, hb⟩
  exact ⟨u, rfl, Sl_R hR, hb⟩
theorem whole_b {l : List Rw} {v : Value} {w : World} (h : Sl k40 w v l) (hlim : l.length ≤ 1000000) : Calls Tryd.prog 14 #[v] w fun e w' => ∃ u, e = .returned u ∧ Sl k40 w' u (wholeM l) ∧ Below w.heap.size w w' := by
  obtain ⟨A, c, rfl, hc, h⟩ := h
  exact whole_c A c l w h hc hlim
def exa17.T17 : Bool × List (List Nat × List Nat) := (true, [([], []), ([], []), ([0, 1], [0, 1]), ([2], [2]), ([], []), ([], []), ([4, 5], [4, 5]), ([6], [6]), ([3, 7], [3, 7]), ([], []), ([], []), ([9, 10], [9, 10]), ([11], [11]), ([], []), ([], []), ([13, 14], [13, 14]), ([15], [15]), ([12, 16, 8], [12, 16]), ([8, 17], [8, 17])])
def exa17.B17 : List Nat := [0, 0, 3, 7, 0, 0, 48, 112, 255, 0, 0, 1536, 3584, 0, 0, 24576, 57344, 131071, 262143]
theorem exa17.tab17 : rtab .any (opsOf Tryd.f7 17) = exa17.T17 := by kernel_rfl
theorem exa17.bits17 : waitsOk exa17.T17.2 exa17.B17 = true := by kernel_rfl
set_option maxHeartbeats 8000000 in
set_option maxRecDepth 100000 in
theorem exact_walk (s : Nat → Addr) (A0 : Option Addr) (c0 : Nat) (l0 : List Bt) (A1 : Option Addr) (c1 : Nat) (l1 : List Ev) (A2 : Option Addr) (c2 : Nat) (l2 : List Rw) (W : World) (hs : Wo.Sents W s) (hC0 : Kd.C k48 W A0 l0.length l0) (hl0 : l0.length ≤ c0) (hC1 : Kd.C k44 W A1 l1.length l1) (hl1 : l1.length ≤ c1) (hC2 : Kd.C k40 W A2 l2.length l2) (hl2 : l2.length ≤ c2)
    (hw1 : ∀ e ∈ l1, wf44 e) (hw2 : ∀ r ∈ l2, wf40 r) :
    Calls Tryd.prog 7 #[.slice A0 l0.length c0, .slice A1 l1.length c1, .slice A2 l2.length c2] W fun e w' => e = .returned (.bool true) ∧ Below W.heap.size W w' := by
  obtain ⟨w, hw⟩ : ∃ w, w = W := ⟨_, rfl⟩
  rw [← hw] at hs hC0 hC1 hC2 ⊢
  clear hw
  have hlen0 := Kd.C_max hC0
  have hlen1 := Kd.C_max hC1
  have hlen2 := Kd.C_max hC2
  have hv1 : ∀ e ∈ l1, I64 e.f0 := fun e he => (hw1 e he).1
  have hv2 : ∀ r ∈ l2, I64 r.f0 ∧ I64 r.f3 ∧ I64 r.f4 := fun r hr => ⟨(hw2 r hr).1, (hw2 r hr).2.2.2.1, (hw2 r hr).2.2.2.2.1⟩
  have S0 := Aside0.mk (Sl_mk hC0 hl0)
  have S1 := Aside0.mk (Sl_mk hC1 hl1)
  have S2 := Aside0.mk (Sl_mk hC2 hl2)
  have HC2 := Aside0.mk hC2
  have HV1 := Aside0.mk hv1
  clear hv1
  have HV2 := Aside0.mk hv2
  clear hv2
  have HS := Aside0.mk hs
  clear hs
  clear hw1 hw2 hC0 hC1 hC2 hl0 hl1 hl2
  go_enter Tryd.func7, Tryd.ntmps7
  go_wp2_with fail
  refine (awake_c (s 1) (s 5) w (HS.out.cell 0 (by decide)) (HS.out.cell 4 (by decide))).mono ?_
  rintro e w1 ⟨rfl, hb⟩
  have HB := Aside0.mk hb
  clear hb
  by_cases k0 : l0.length ≤ 200
  · have i0 : ¬ (l0.length : Int) > 200 := by omega
    by_cases k1 : l1.length ≤ 200
    · have i1 : ¬ (l1.length : Int) > 200 := by omega
      by_cases k2 : l2.length ≤ 200
      · have i2 : ¬ (l2.length : Int) > 200 := by omega
        go_wp2_with fail
        refine (rows_b (s := s) (Sl_below S1.out HB.out) (by omega) HV1.out (HS.out.below HB.out)).mono ?_
        rintro e w3 ⟨va, ve, rfl, ha, hco, hb⟩
        have SA := Aside0.mk (ha)
        have HCO := Aside0.mk (hco)
        replace HB := Aside0.mk (below_step HB.out hb)
        clear hb
        clear ha hco
        go_wp2_with fail
        refine (rrows_b (Sl_below S1.out HB.out) (by omega)).mono ?_
        rintro e w3 ⟨vb, rfl, hx, hb⟩
        have SB := Aside0.mk (hx)
        replace SA := Aside0.mk (Sl_below SA.out hb)
        replace HCO := Aside0.mk (CodeIs_below HCO.out hb)
        replace HB := Aside0.mk (below_step HB.out hb)
        clear hb
        clear hx
        cases ho : ofM l2 with
        | none =>
          have hof1 : (ofM l2).isSome = false := by rw [ho]; rfl
          have HOF := Aside0.mk hof1
          clear hof1
          go_wp2_with fail
          refine (of_no ho (Sl_below S2.out HB.out) (by omega) HV2.out ((HS.out.below HB.out).cell 0 (by decide)) ((HS.out.below HB.out).cell 4 (by decide))).mono ?_
          rintro e w3 ⟨gz, pz, rfl, hx, hb⟩
          have SC := Aside0.mk ((show Sl k44 w3 (.slice none 0 0) (ofL l2) from by unfold ofL; rw [ho]; exact Sl_nil _ _))
          have HAT := Aside0.mk ((show Ats w3 (s 1) (AtPlace gz) from ⟨gz, pz, rfl, hx⟩))
          replace SA := Aside0.mk (Sl_below SA.out hb)
          replace HCO := Aside0.mk (CodeIs_below HCO.out hb)
          replace SB := Aside0.mk (Sl_below SB.out hb)
          replace HB := Aside0.mk (below_step HB.out hb)
          clear hb
          clear hx ho
          go_wp2_with fail
          refine (rof_b (Sl_below S2.out HB.out) (by omega)).mono ?_
          rintro e w3 ⟨vd, rfl, hx, hb⟩
          have SD := Aside0.mk (hx)
          replace SA := Aside0.mk (Sl_below SA.out hb)
          replace HCO := Aside0.mk (CodeIs_below HCO.out hb)
          replace SB := Aside0.mk (Sl_below SB.out hb)
          replace SC := Aside0.mk (Sl_below SC.out hb)
          replace HAT := Aside0.mk (Ats_below HAT.out hb)
          replace HB := Aside0.mk (below_step HB.out hb)
          clear hb
          clear hx
          rw [HOF.out]
          go_wp2_with fail
          refine (events_b (Sl_below S0.out HB.out) (by omega)).mono ?_
          rintro e w3 ⟨v1, rfl, hx, hb⟩
          have SE := Aside0.mk (hx)
          replace SA := Aside0.mk (Sl_below SA.out hb)
          replace HCO := Aside0.mk (CodeIs_below HCO.out hb)
          replace SB := Aside0.mk (Sl_below SB.out hb)
          replace SC := Aside0.mk (Sl_below SC.out hb)
          replace SD := Aside0.mk (Sl_below SD.out hb)
          replace HAT := Aside0.mk (Ats_below HAT.out hb)
          replace HB := Aside0.mk (below_step HB.out hb)
          clear hb
          clear hx
          go_wp2_with fail
          refine (revents_b (Sl_below S0.out HB.out) (by omega)).mono ?_
          rintro e w3 ⟨v2, rfl, hx, hb⟩
          have SF := Aside0.mk (hx)
          replace SA := Aside0.mk (Sl_below SA.out hb)
          replace HCO := Aside0.mk (CodeIs_below HCO.out hb)
          replace SB := Aside0.mk (Sl_below SB.out hb)
          replace SC := Aside0.mk (Sl_below SC.out hb)
          replace SD := Aside0.mk (Sl_below SD.out hb)
          replace SE := Aside0.mk (Sl_below SE.out hb)
          replace HAT := Aside0.mk (Ats_below HAT.out hb)
          replace HB := Aside0.mk (below_step HB.out hb)
          clear hb
          clear hx
          go_wp2_with fail
          refine (alike_y SE.out SF.out rfl).mono ?_
          rintro e w3 ⟨rfl, hb⟩
          replace SA := Aside0.mk (Sl_below SA.out hb)
          replace HCO := Aside0.mk (CodeIs_below HCO.out hb)
          replace SB := Aside0.mk (Sl_below SB.out hb)
          replace SC := Aside0.mk (Sl_below SC.out hb)
          replace SD := Aside0.mk (Sl_below SD.out hb)
          replace HAT := Aside0.mk (Ats_below HAT.out hb)
          replace HB := Aside0.mk (below_step HB.out hb)
          clear hb
          clear SE SF
          go_wp2_with fail
          refine (rsame_y SA.out SB.out).mono ?_
          rintro e w3 ⟨rfl, hb⟩
          replace SA := Aside0.mk (Sl_below SA.out hb)
          replace HCO := Aside0.mk (CodeIs_below HCO.out hb)
          replace SC := Aside0.mk (Sl_below SC.out hb)
          replace SD := Aside0.mk (Sl_below SD.out hb)
          replace HAT := Aside0.mk (Ats_below HAT.out hb)
          replace HB := Aside0.mk (below_step HB.out hb)
          clear hb
          clear SB
          go_wp2_with fail
          refine (code_b HCO.out (HS.out.below HB.out)).mono ?_
          rintro e w3 ⟨rfl, hw3⟩
          rw [hw3]
          clear hw3 HCO w3
          go_wp2_with fail
          refine (alike_y SC.out SD.out rfl).mono ?_
          rintro e w3 ⟨rfl, hb⟩
          replace SA := Aside0.mk (Sl_below SA.out hb)
          replace HAT := Aside0.mk (Ats_below HAT.out hb)
          replace HB := Aside0.mk (below_step HB.out hb)
          clear hb
          clear SC SD
          have hA1 : w3.cell? ⟨0, 0, none⟩ = some (Sent (s 1)) := (HS.out.below HB.out).cell 0 (by decide)
          go_wp2_with fail
          refine (is_s HAT.out).mono ?_
          rintro e w3 ⟨rfl, hb⟩
          replace SA := Aside0.mk (Sl_below SA.out hb)
          replace HB := Aside0.mk (below_step HB.out hb)
          clear hb
          clear hA1 HAT
          go_wp2_with fail
          refine (whole_b (Sl_below S2.out HB.out) (by omega)).mono ?_
          rintro e w3 ⟨v3, rfl, hx, hb⟩
          have SE := Aside0.mk (hx)
          replace SA := Aside0.mk (Sl_below SA.out hb)
          replace HB := Aside0.mk (below_step HB.out hb)
          clear hb
          clear hx
          go_wp2_with fail
          refine (rwhole_b (Sl_below S2.out HB.out) (by omega)).mono ?_
          rintro e w3 ⟨v4, rfl, hx, hb⟩
          have SF := Aside0.mk (hx)
          replace SA := Aside0.mk (Sl_below SA.out hb)
          replace SE := Aside0.mk (Sl_below SE.out hb)
          replace HB := Aside0.mk (below_step HB.out hb)
          clear hb
          clear hx
          go_wp2_with fail
          refine (rsame_y SE.out SF.out).mono ?_
          rintro e w3 ⟨rfl, hb⟩
          replace SA := Aside0.mk (Sl_below SA.out hb)
          replace HB := Aside0.mk (below_step HB.out hb)
          clear hb
          clear SE SF
          go_wp2
          go_loopw [15] (fun m wr => ∃ i : Nat, i ≤ l2.length ∧ m = .int .i64 i ∧ Below w.heap.size w wr ∧ Sl k40 wr va (rowsL l1)) (fun m _ => l2.length - (intOf m).toNat)
          case atStart => exact ⟨0, Nat.zero_le _, rfl, HB.out, SA.out⟩
          case round =>
            clear HB SA
            obtain ⟨i, hi, rfl, hb, ha⟩ := hrel
            have HB := Aside0.mk hb
            have SA := Aside0.mk ha
            clear hb ha
            by_cases hi1 : i < l2.length
            · by_cases hi20 : i < 20
              · have ik : (i : Int) < (l2.length : Int) := by omega
                have i20k : (i : Int) < 20 := by omega
                go_wp2
                go_loopw [16] (fun m wr => ∃ j : Nat, j ≤ l2.length ∧ m = .int .i64 j ∧ Below w.heap.size w wr ∧ Sl k40 wr va (rowsL l1)) (fun m _ => l2.length - (intOf m).toNat)
                case atStart => exact ⟨0, Nat.zero_le _, rfl, HB.out, SA.out⟩
                case round =>
                  clear HB SA
                  obtain ⟨j, hj, rfl, hb, ha⟩ := hrel
                  have HB := Aside0.mk hb
                  have SA := Aside0.mk ha
                  clear hb ha
                  by_cases hj1 : j < l2.length
                  · by_cases hj20 : j < 20
                    · have jk : (j : Int) < (l2.length : Int) := by omega
                      have j20k : (j : Int) < 20 := by omega
                      obtain ⟨ad, eA, r0, r1, r2, r3, r4, r5, r6, r7, r8, r9⟩ := at_T40 HC2.out (j : Int) (by omega) (by omega)
                      simp only [Int.toNat_natCast] at r0 r1 r2 r3 r4 r5 r6 r7 r8 r9
                      cases eA
                      obtain ⟨x, hx⟩ : ∃ x, x = rd_T40 l2 (i : Int) := ⟨_, rfl⟩
                      obtain ⟨y, hy⟩ : ∃ y, y = rd_T40 l2 (j : Int) := ⟨_, rfl⟩
                      obtain ⟨ad_, eA_, q0, q1, q2, q3, q4, q5, q6, q7, q8, q9⟩ := at_T40 HC2.out (i : Int) (by omega) (by omega)
                      simp only [Int.toNat_natCast] at q0 q1 q2 q3 q4 q5 q6 q7 q8 q9
                      cases eA_
                      rw [← hx] at q0 q1 q2 q3 q4 q5 q6 q7 q8 q9
                      rw [← hy] at r0 r1 r2 r3 r4 r5 r6 r7 r8 r9
                      have QX0 := Aside0.mk q0
                      have QX1 := Aside0.mk q1
                      have QX2 := Aside0.mk q2
                      have QX3 := Aside0.mk q3
                      have QX4 := Aside0.mk q4
                      have QX5 := Aside0.mk q5
                      have QX6 := Aside0.mk q6
                      have QX7 := Aside0.mk q7
                      have QX8 := Aside0.mk q8
                      have QX9 := Aside0.mk q9
                      have QY0 := Aside0.mk r0
                      have QY1 := Aside0.mk r1
                      have QY2 := Aside0.mk r2
                      have QY3 := Aside0.mk r3
                      have QY4 := Aside0.mk r4
                      have QY5 := Aside0.mk r5
                      have QY6 := Aside0.mk r6
                      have QY7 := Aside0.mk r7
                      have QY8 := Aside0.mk r8
                      have QY9 := Aside0.mk r9
                      obtain ⟨bb, hbb⟩ : ∃ b, b = aheadB x y := ⟨_, rfl⟩
                      have HBB := Aside0.mk hbb.symm
                      clear hbb hx hy q0 r0 q1 r1 q2 r2 q3 r3 q4 r4 q5 r5 q6 r6 q7 r7 q8 r8 q9 r9
                      go_wp2
                      have SAW := SA
                      clear SA
                      refine start_ (n := 19) (S := fun w' => True) (ds := []) #[false, false, false, false, false, false, false, false, false, false, false, false, false, false, false, false, false, false, false] (by kernel_rfl) rfl rfl trivial (fun hHeld => ?_)
                      refine with_tabW exa17.tab17 exa17.bits17 (fun HT_ HW_ => ?_)
                      have HBr := Aside0.mk (below_drew1 HB.out)
                      refine inv_at [0, 1, 2, 3, 4, 5, 6, 7, 8, 9, 10, 11, 12, 13, 14, 15, 16, 17, 18] (fun a0_ b a w' => a = putSel a0_ b [(0, 120, .slice (some ad) l2.length c2), (1, 121, .int .i64 (i : Int)), (2, 122, .pointer (some (ad.add (i * 10)))), (3, 123, .agg #[.int .i64 x.f0, .int .i64 x.f1.f0, .int .i64 x.f1.f1, .int .i64 x.f1.f2, .int .i64 x.f1.f3, .int .i64 x.f2.f0, .int .i64 x.f2.f1, .int .i64 x.f3, .int .i64 x.f4, .bool x.f5]), (4, 124, .slice (some ad) l2.length c2), (5, 125, .int .i64 (j : Int)), (6, 126, .pointer (some (ad.add (j * 10)))), (7, 127, .agg #[.int .i64 y.f0, .int .i64 y.f1.f0, .int .i64 y.f1.f1, .int .i64 y.f1.f2, .int .i64 y.f1.f3, .int .i64 y.f2.f0, .int .i64 y.f2.f1, .int .i64 y.f3, .int .i64 y.f4, .bool y.f5]), (8, 128, .bool bb), (9, 129, .slice (some ad) l2.length c2), (10, 130, .int .i64 (i : Int)), (11, 131, .pointer (some (ad.add (i * 10)))), (12, 132, .agg #[.int .i64 x.f0, .int .i64 x.f1.f0, .int .i64 x.f1.f1, .int .i64 x.f1.f2, .int .i64 x.f1.f3, .int .i64 x.f2.f0, .int .i64 x.f2.f1, .int .i64 x.f3, .int .i64 x.f4, .bool x.f5]), (13, 133, .slice (some ad) l2.length c2), (14, 134, .int .i64 (j : Int)), (15, 135, .pointer (some (ad.add (j * 10)))), (16, 136, .agg #[.int .i64 y.f0, .int .i64 y.f1.f0, .int .i64 y.f1.f1, .int .i64 y.f1.f2, .int .i64 y.f1.f3, .int .i64 y.f2.f0, .int .i64 y.f2.f1, .int .i64 y.f3, .int .i64 y.f4, .bool y.f5]), (17, 137, .bool bb), (18, 138, .bool false)] ∧ (Below w.heap.size w w') ∧ (Sl k40 w' va (rowsL l1))) HT_.out HW_.out (by kernel_rfl) (by kernel_rfl) ?_ ?_ ?_
                      · exact ⟨by simp only [putSel, Bool.false_eq_true, if_false], HBr.out, Sl_below SAW.out (below_drew (Below.refl _ _))⟩
                      · skip
                        clear HBr SAW
                        refine steps_cons ?_ ?_
                        · rintro b a w' ⟨ha, Q_HBr, Q_SAW⟩ hb_ hon hoff
                          refine ⟨_, rfl, fun K hK => ?_⟩
                          have e2 : a.tmps[2]? = some (.slice (some ad) l2.length c2) := by rw [ha]; exact (putSel_off rfl).trans rfl
                          replace ha := Aside0.mk ha
                          have HBr := Aside0.mk Q_HBr
                          have SAW := Aside0.mk Q_SAW
                          refine value_ (w1 := w') (v := .slice (some ad) l2.length c2) ?cA ?cB ?_ ?_
                          case cA => rfl
                          case cB => rfl
                          · go_simp
                            (try simp only [i64_w])
                            try rfl
                          refine hK.out _ _ ⟨(by rw [ha.out]; exact putSel_upk 0 hb_ rfl rfl rfl), Q_HBr, Q_SAW⟩
                        refine steps_cons ?_ ?_
                        · rintro b a w' ⟨ha, Q_HBr, Q_SAW⟩ hb_ hon hoff
                          refine ⟨_, rfl, fun K hK => ?_⟩
                          have e15 : a.tmps[15]? = some (.int .i64 (i : Int)) := by rw [ha]; exact (putSel_off rfl).trans rfl
                          replace ha := Aside0.mk ha
                          have HBr := Aside0.mk Q_HBr
                          have SAW := Aside0.mk Q_SAW
                          refine value_ (w1 := w') (v := .int .i64 (i : Int)) ?cA ?cB ?_ ?_
                          case cA => rfl
                          case cB => rfl
                          · go_simp
                            (try simp only [i64_w])
                            try rfl
                          refine hK.out _ _ ⟨(by rw [ha.out]; exact putSel_upk 1 hb_ rfl rfl rfl), Q_HBr, Q_SAW⟩
                        refine steps_cons ?_ ?_
                        · rintro b a w' ⟨ha, Q_HBr, Q_SAW⟩ hb_ hon hoff
                          refine ⟨_, rfl, fun K hK => ?_⟩
                          have e120 : a.tmps[120]? = some (.slice (some ad) l2.length c2) := by rw [ha]; exact putSel_on (e := (0, 120, .slice (some ad) l2.length c2)) 0 rfl rfl (hon 0 (by kernel_rfl)) rfl
                          have e121 : a.tmps[121]? = some (.int .i64 (i : Int)) := by rw [ha]; exact putSel_on (e := (1, 121, .int .i64 (i : Int))) 1 rfl rfl (hon 1 (by kernel_rfl)) rfl
                          replace ha := Aside0.mk ha
                          have HBr := Aside0.mk Q_HBr
                          have SAW := Aside0.mk Q_SAW
                          refine value_ (w1 := w') (v := .pointer (some (ad.add (i * 10)))) ?cA ?cB ?_ ?_
                          case cA => rfl
                          case cB => rfl
                          · go_simp
                            (try simp only [i64_w])
                            try rfl
                          refine hK.out _ _ ⟨(by rw [ha.out]; exact putSel_upk 2 hb_ rfl rfl rfl), Q_HBr, Q_SAW⟩
                        refine steps_cons ?_ ?_
                        · rintro b a w' ⟨ha, Q_HBr, Q_SAW⟩ hb_ hon hoff
                          refine ⟨_, rfl, fun K hK => ?_⟩
                          have e122 : a.tmps[122]? = some (.pointer (some (ad.add (i * 10)))) := by rw [ha]; exact putSel_on (e := (2, 122, .pointer (some (ad.add (i * 10))))) 2 rfl rfl (hon 2 (by kernel_rfl)) rfl
                          replace ha := Aside0.mk ha
                          have HBr := Aside0.mk Q_HBr
                          have SAW := Aside0.mk Q_SAW
                          have z0_ := pw_cell_below HBr.out QX0.out
                          have z1_ := pw_cell_below HBr.out QX1.out
                          have z2_ := pw_cell_below HBr.out QX2.out
                          have z3_ := pw_cell_below HBr.out QX3.out
                          have z4_ := pw_cell_below HBr.out QX4.out
                          have z5_ := pw_cell_below HBr.out QX5.out
                          have z6_ := pw_cell_below HBr.out QX6.out
                          have z7_ := pw_cell_below HBr.out QX7.out
                          have z8_ := pw_cell_below HBr.out QX8.out
                          have z9_ := pw_cell_below HBr.out QX9.out
                          refine value_ (w1 := w') (v := .agg #[.int .i64 x.f0, .int .i64 x.f1.f0, .int .i64 x.f1.f1, .int .i64 x.f1.f2, .int .i64 x.f1.f3, .int .i64 x.f2.f0, .int .i64 x.f2.f1, .int .i64 x.f3, .int .i64 x.f4, .bool x.f5]) ?cA ?cB ?_ ?_
                          case cA => rfl
                          case cB => rfl
                          · go_simp
                            (try simp only [i64_w])
                            try rfl
                          refine hK.out _ _ ⟨(by rw [ha.out]; exact putSel_upk 3 hb_ rfl rfl rfl), Q_HBr, Q_SAW⟩
                        refine steps_cons ?_ ?_
                        · rintro b a w' ⟨ha, Q_HBr, Q_SAW⟩ hb_ hon hoff
                          refine ⟨_, rfl, fun K hK => ?_⟩
                          have e2 : a.tmps[2]? = some (.slice (some ad) l2.length c2) := by rw [ha]; exact (putSel_off rfl).trans rfl
                          replace ha := Aside0.mk ha
                          have HBr := Aside0.mk Q_HBr
                          have SAW := Aside0.mk Q_SAW
                          refine value_ (w1 := w') (v := .slice (some ad) l2.length c2) ?cA ?cB ?_ ?_
                          case cA => rfl
                          case cB => rfl
                          · go_simp
                            (try simp only [i64_w])
                            try rfl
                          refine hK.out _ _ ⟨(by rw [ha.out]; exact putSel_upk 4 hb_ rfl rfl rfl), Q_HBr, Q_SAW⟩
                        refine steps_cons ?_ ?_
                        · rintro b a w' ⟨ha, Q_HBr, Q_SAW⟩ hb_ hon hoff
                          refine ⟨_, rfl, fun K hK => ?_⟩
                          have e16 : a.tmps[16]? = some (.int .i64 (j : Int)) := by rw [ha]; exact (putSel_off rfl).trans rfl
                          replace ha := Aside0.mk ha
                          have HBr := Aside0.mk Q_HBr
                          have SAW := Aside0.mk Q_SAW
                          refine value_ (w1 := w') (v := .int .i64 (j : Int)) ?cA ?cB ?_ ?_
                          case cA => rfl
                          case cB => rfl
                          · go_simp
                            (try simp only [i64_w])
                            try rfl
                          refine hK.out _ _ ⟨(by rw [ha.out]; exact putSel_upk 5 hb_ rfl rfl rfl), Q_HBr, Q_SAW⟩
                        refine steps_cons ?_ ?_
                        · rintro b a w' ⟨ha, Q_HBr, Q_SAW⟩ hb_ hon hoff
                          refine ⟨_, rfl, fun K hK => ?_⟩
                          have e124 : a.tmps[124]? = some (.slice (some ad) l2.length c2) := by rw [ha]; exact putSel_on (e := (4, 124, .slice (some ad) l2.length c2)) 4 rfl rfl (hon 4 (by kernel_rfl)) rfl
                          have e125 : a.tmps[125]? = some (.int .i64 (j : Int)) := by rw [ha]; exact putSel_on (e := (5, 125, .int .i64 (j : Int))) 5 rfl rfl (hon 5 (by kernel_rfl)) rfl
                          replace ha := Aside0.mk ha
                          have HBr := Aside0.mk Q_HBr
                          have SAW := Aside0.mk Q_SAW
                          refine value_ (w1 := w') (v := .pointer (some (ad.add (j * 10)))) ?cA ?cB ?_ ?_
                          case cA => rfl
                          case cB => rfl
                          · go_simp
                            (try simp only [i64_w])
                            try rfl
                          refine hK.out _ _ ⟨(by rw [ha.out]; exact putSel_upk 6 hb_ rfl rfl rfl), Q_HBr, Q_SAW⟩
                        refine steps_cons ?_ ?_
                        · rintro b a w' ⟨ha, Q_HBr, Q_SAW⟩ hb_ hon hoff
                          refine ⟨_, rfl, fun K hK => ?_⟩
                          have e126 : a.tmps[126]? = some (.pointer (some (ad.add (j * 10)))) := by rw [ha]; exact putSel_on (e := (6, 126, .pointer (some (ad.add (j * 10))))) 6 rfl rfl (hon 6 (by kernel_rfl)) rfl
                          replace ha := Aside0.mk ha
                          have HBr := Aside0.mk Q_HBr
                          have SAW := Aside0.mk Q_SAW
                          have z0_ := pw_cell_below HBr.out QY0.out
                          have z1_ := pw_cell_below HBr.out QY1.out
                          have z2_ := pw_cell_below HBr.out QY2.out
                          have z3_ := pw_cell_below HBr.out QY3.out
                          have z4_ := pw_cell_below HBr.out QY4.out
                          have z5_ := pw_cell_below HBr.out QY5.out
                          have z6_ := pw_cell_below HBr.out QY6.out
                          have z7_ := pw_cell_below HBr.out QY7.out
                          have z8_ := pw_cell_below HBr.out QY8.out
                          have z9_ := pw_cell_below HBr.out QY9.out
                          refine value_ (w1 := w') (v := .agg #[.int .i64 y.f0, .int .i64 y.f1.f0, .int .i64 y.f1.f1, .int .i64 y.f1.f2, .int .i64 y.f1.f3, .int .i64 y.f2.f0, .int .i64 y.f2.f1, .int .i64 y.f3, .int .i64 y.f4, .bool y.f5]) ?cA ?cB ?_ ?_
                          case cA => rfl
                          case cB => rfl
                          · go_simp
                            (try simp only [i64_w])
                            try rfl
                          refine hK.out _ _ ⟨(by rw [ha.out]; exact putSel_upk 7 hb_ rfl rfl rfl), Q_HBr, Q_SAW⟩
                        refine steps_cons ?_ ?_
                        · rintro b a w' ⟨ha, Q_HBr, Q_SAW⟩ hb_ hon hoff
                          refine ⟨_, rfl, fun K hK => ?_⟩
                          have e123 : a.tmps[123]? = some (.agg #[.int .i64 x.f0, .int .i64 x.f1.f0, .int .i64 x.f1.f1, .int .i64 x.f1.f2, .int .i64 x.f1.f3, .int .i64 x.f2.f0, .int .i64 x.f2.f1, .int .i64 x.f3, .int .i64 x.f4, .bool x.f5]) := by rw [ha]; exact putSel_on (e := (3, 123, .agg #[.int .i64 x.f0, .int .i64 x.f1.f0, .int .i64 x.f1.f1, .int .i64 x.f1.f2, .int .i64 x.f1.f3, .int .i64 x.f2.f0, .int .i64 x.f2.f1, .int .i64 x.f3, .int .i64 x.f4, .bool x.f5])) 3 rfl rfl (hon 3 (by kernel_rfl)) rfl
                          have e127 : a.tmps[127]? = some (.agg #[.int .i64 y.f0, .int .i64 y.f1.f0, .int .i64 y.f1.f1, .int .i64 y.f1.f2, .int .i64 y.f1.f3, .int .i64 y.f2.f0, .int .i64 y.f2.f1, .int .i64 y.f3, .int .i64 y.f4, .bool y.f5]) := by rw [ha]; exact putSel_on (e := (7, 127, .agg #[.int .i64 y.f0, .int .i64 y.f1.f0, .int .i64 y.f1.f1, .int .i64 y.f1.f2, .int .i64 y.f1.f3, .int .i64 y.f2.f0, .int .i64 y.f2.f1, .int .i64 y.f3, .int .i64 y.f4, .bool y.f5])) 7 rfl rfl (hon 7 (by kernel_rfl)) rfl
                          replace ha := Aside0.mk ha
                          have HBr := Aside0.mk Q_HBr
                          have SAW := Aside0.mk Q_SAW
                          refine goes_ Tryd.func13 (by kernel_rfl) rfl #[.agg #[.int .i64 x.f0, .int .i64 x.f1.f0, .int .i64 x.f1.f1, .int .i64 x.f1.f2, .int .i64 x.f1.f3, .int .i64 x.f2.f0, .int .i64 x.f2.f1, .int .i64 x.f3, .int .i64 x.f4, .bool x.f5], .agg #[.int .i64 y.f0, .int .i64 y.f1.f0, .int .i64 y.f1.f1, .int .i64 y.f1.f2, .int .i64 y.f1.f3, .int .i64 y.f2.f0, .int .i64 y.f2.f1, .int .i64 y.f3, .int .i64 y.f4, .bool y.f5]] (by rfl) rfl rfl (by first | (simp only [List.map_toArray, List.map_cons, List.map_nil, Act.eval, Array.getD_eq_getD_getElem?, Option.getD_some, e123, e127]; done) | (simp only [List.map_toArray, List.map_cons, List.map_nil, Act.eval, Array.getD_eq_getD_getElem?, Option.getD_some, e123, e127]; rfl)) ?_
                          refine (ahead_c x y w').mono ?_
                          rintro e w1 ⟨hr_, hb1⟩
                          rw [HBB.out] at hr_
                          subst hr_
                          refine ⟨_, rfl, ?_⟩
                          refine hK.out _ _ ⟨(by rw [ha.out]; exact putSel_upk 8 hb_ rfl rfl rfl), below_step HBr.out hb1, Sl_below SAW.out hb1⟩
                        refine steps_cons ?_ ?_
                        · rintro b a w' ⟨ha, Q_HBr, Q_SAW⟩ hb_ hon hoff
                          refine ⟨_, rfl, fun K hK => ?_⟩
                          have e2 : a.tmps[2]? = some (.slice (some ad) l2.length c2) := by rw [ha]; exact (putSel_off rfl).trans rfl
                          replace ha := Aside0.mk ha
                          have HBr := Aside0.mk Q_HBr
                          have SAW := Aside0.mk Q_SAW
                          refine value_ (w1 := w') (v := .slice (some ad) l2.length c2) ?cA ?cB ?_ ?_
                          case cA => rfl
                          case cB => rfl
                          · go_simp
                            (try simp only [i64_w])
                            try rfl
                          refine hK.out _ _ ⟨(by rw [ha.out]; exact putSel_upk 9 hb_ rfl rfl rfl), Q_HBr, Q_SAW⟩
                        refine steps_cons ?_ ?_
                        · rintro b a w' ⟨ha, Q_HBr, Q_SAW⟩ hb_ hon hoff
                          refine ⟨_, rfl, fun K hK => ?_⟩
                          have e15 : a.tmps[15]? = some (.int .i64 (i : Int)) := by rw [ha]; exact (putSel_off rfl).trans rfl
                          replace ha := Aside0.mk ha
                          have HBr := Aside0.mk Q_HBr
                          have SAW := Aside0.mk Q_SAW
                          refine value_ (w1 := w') (v := .int .i64 (i : Int)) ?cA ?cB ?_ ?_
                          case cA => rfl
                          case cB => rfl
                          · go_simp
                            (try simp only [i64_w])
                            try rfl
                          refine hK.out _ _ ⟨(by rw [ha.out]; exact putSel_upk 10 hb_ rfl rfl rfl), Q_HBr, Q_SAW⟩
                        refine steps_cons ?_ ?_
                        · rintro b a w' ⟨ha, Q_HBr, Q_SAW⟩ hb_ hon hoff
                          refine ⟨_, rfl, fun K hK => ?_⟩
                          have e129 : a.tmps[129]? = some (.slice (some ad) l2.length c2) := by rw [ha]; exact putSel_on (e := (9, 129, .slice (some ad) l2.length c2)) 9 rfl rfl (hon 9 (by kernel_rfl)) rfl
                          have e130 : a.tmps[130]? = some (.int .i64 (i : Int)) := by rw [ha]; exact putSel_on (e := (10, 130, .int .i64 (i : Int))) 10 rfl rfl (hon 10 (by kernel_rfl)) rfl
                          replace ha := Aside0.mk ha
                          have HBr := Aside0.mk Q_HBr
                          have SAW := Aside0.mk Q_SAW
                          refine value_ (w1 := w') (v := .pointer (some (ad.add (i * 10)))) ?cA ?cB ?_ ?_
                          case cA => rfl
                          case cB => rfl
                          · go_simp
                            (try simp only [i64_w])
                            try rfl
                          refine hK.out _ _ ⟨(by rw [ha.out]; exact putSel_upk 11 hb_ rfl rfl rfl), Q_HBr, Q_SAW⟩
                        refine steps_cons ?_ ?_
                        · rintro b a w' ⟨ha, Q_HBr, Q_SAW⟩ hb_ hon hoff
                          refine ⟨_, rfl, fun K hK => ?_⟩
                          have e131 : a.tmps[131]? = some (.pointer (some (ad.add (i * 10)))) := by rw [ha]; exact putSel_on (e := (11, 131, .pointer (some (ad.add (i * 10))))) 11 rfl rfl (hon 11 (by kernel_rfl)) rfl
                          replace ha := Aside0.mk ha
                          have HBr := Aside0.mk Q_HBr
                          have SAW := Aside0.mk Q_SAW
                          have z0_ := pw_cell_below HBr.out QX0.out
                          have z1_ := pw_cell_below HBr.out QX1.out
                          have z2_ := pw_cell_below HBr.out QX2.out
                          have z3_ := pw_cell_below HBr.out QX3.out
                          have z4_ := pw_cell_below HBr.out QX4.out
                          have z5_ := pw_cell_below HBr.out QX5.out
                          have z6_ := pw_cell_below HBr.out QX6.out
                          have z7_ := pw_cell_below HBr.out QX7.out
                          have z8_ := pw_cell_below HBr.out QX8.out
                          have z9_ := pw_cell_below HBr.out QX9.out
                          refine value_ (w1 := w') (v := .agg #[.int .i64 x.f0, .int .i64 x.f1.f0, .int .i64 x.f1.f1, .int .i64 x.f1.f2, .int .i64 x.f1.f3, .int .i64 x.f2.f0, .int .i64 x.f2.f1, .int .i64 x.f3, .int .i64 x.f4, .bool x.f5]) ?cA ?cB ?_ ?_
                          case cA => rfl
                          case cB => rfl
                          · go_simp
                            (try simp only [i64_w])
                            try rfl
                          refine hK.out _ _ ⟨(by rw [ha.out]; exact putSel_upk 12 hb_ rfl rfl rfl), Q_HBr, Q_SAW⟩
                        refine steps_cons ?_ ?_
                        · rintro b a w' ⟨ha, Q_HBr, Q_SAW⟩ hb_ hon hoff
                          refine ⟨_, rfl, fun K hK => ?_⟩
                          have e2 : a.tmps[2]? = some (.slice (some ad) l2.length c2) := by rw [ha]; exact (putSel_off rfl).trans rfl
                          replace ha := Aside0.mk ha
                          have HBr := Aside0.mk Q_HBr
                          have SAW := Aside0.mk Q_SAW
                          refine value_ (w1 := w') (v := .slice (some ad) l2.length c2) ?cA ?cB ?_ ?_
                          case cA => rfl
                          case cB => rfl
                          · go_simp
                            (try simp only [i64_w])
                            try rfl
                          refine hK.out _ _ ⟨(by rw [ha.out]; exact putSel_upk 13 hb_ rfl rfl rfl), Q_HBr, Q_SAW⟩
                        refine steps_cons ?_ ?_
                        · rintro b a w' ⟨ha, Q_HBr, Q_SAW⟩ hb_ hon hoff
                          refine ⟨_, rfl, fun K hK => ?_⟩
                          have e16 : a.tmps[16]? = some (.int .i64 (j : Int)) := by rw [ha]; exact (putSel_off rfl).trans rfl
                          replace ha := Aside0.mk ha
                          have HBr := Aside0.mk Q_HBr
                          have SAW := Aside0.mk Q_SAW
                          refine value_ (w1 := w') (v := .int .i64 (j : Int)) ?cA ?cB ?_ ?_
                          case cA => rfl
                          case cB => rfl
                          · go_simp
                            (try simp only [i64_w])
                            try rfl
                          refine hK.out _ _ ⟨(by rw [ha.out]; exact putSel_upk 14 hb_ rfl rfl rfl), Q_HBr, Q_SAW⟩
                        refine steps_cons ?_ ?_
                        · rintro b a w' ⟨ha, Q_HBr, Q_SAW⟩ hb_ hon hoff
                          refine ⟨_, rfl, fun K hK => ?_⟩
                          have e133 : a.tmps[133]? = some (.slice (some ad) l2.length c2) := by rw [ha]; exact putSel_on (e := (13, 133, .slice (some ad) l2.length c2)) 13 rfl rfl (hon 13 (by kernel_rfl)) rfl
                          have e134 : a.tmps[134]? = some (.int .i64 (j : Int)) := by rw [ha]; exact putSel_on (e := (14, 134, .int .i64 (j : Int))) 14 rfl rfl (hon 14 (by kernel_rfl)) rfl
                          replace ha := Aside0.mk ha
                          have HBr := Aside0.mk Q_HBr
                          have SAW := Aside0.mk Q_SAW
                          refine value_ (w1 := w') (v := .pointer (some (ad.add (j * 10)))) ?cA ?cB ?_ ?_
                          case cA => rfl
                          case cB => rfl
                          · go_simp
                            (try simp only [i64_w])
                            try rfl
                          refine hK.out _ _ ⟨(by rw [ha.out]; exact putSel_upk 15 hb_ rfl rfl rfl), Q_HBr, Q_SAW⟩
                        refine steps_cons ?_ ?_
                        · rintro b a w' ⟨ha, Q_HBr, Q_SAW⟩ hb_ hon hoff
                          refine ⟨_, rfl, fun K hK => ?_⟩
                          have e135 : a.tmps[135]? = some (.pointer (some (ad.add (j * 10)))) := by rw [ha]; exact putSel_on (e := (15, 135, .pointer (some (ad.add (j * 10))))) 15 rfl rfl (hon 15 (by kernel_rfl)) rfl
                          replace ha := Aside0.mk ha
                          have HBr := Aside0.mk Q_HBr
                          have SAW := Aside0.mk Q_SAW
                          have z0_ := pw_cell_below HBr.out QY0.out
                          have z1_ := pw_cell_below HBr.out QY1.out
                          have z2_ := pw_cell_below HBr.out QY2.out
                          have z3_ := pw_cell_below HBr.out QY3.out
                          have z4_ := pw_cell_below HBr.out QY4.out
                          have z5_ := pw_cell_below HBr.out QY5.out
                          have z6_ := pw_cell_below HBr.out QY6.out
                          have z7_ := pw_cell_below HBr.out QY7.out
                          have z8_ := pw_cell_below HBr.out QY8.out
                          have z9_ := pw_cell_below HBr.out QY9.out
                          refine value_ (w1 := w') (v := .agg #[.int .i64 y.f0, .int .i64 y.f1.f0, .int .i64 y.f1.f1, .int .i64 y.f1.f2, .int .i64 y.f1.f3, .int .i64 y.f2.f0, .int .i64 y.f2.f1, .int .i64 y.f3, .int .i64 y.f4, .bool y.f5]) ?cA ?cB ?_ ?_
                          case cA => rfl
                          case cB => rfl
                          · go_simp
                            (try simp only [i64_w])
                            try rfl
                          refine hK.out _ _ ⟨(by rw [ha.out]; exact putSel_upk 16 hb_ rfl rfl rfl), Q_HBr, Q_SAW⟩
                        refine steps_cons ?_ ?_
                        · rintro b a w' ⟨ha, Q_HBr, Q_SAW⟩ hb_ hon hoff
                          refine ⟨_, rfl, fun K hK => ?_⟩
                          have e132 : a.tmps[132]? = some (.agg #[.int .i64 x.f0, .int .i64 x.f1.f0, .int .i64 x.f1.f1, .int .i64 x.f1.f2, .int .i64 x.f1.f3, .int .i64 x.f2.f0, .int .i64 x.f2.f1, .int .i64 x.f3, .int .i64 x.f4, .bool x.f5]) := by rw [ha]; exact putSel_on (e := (12, 132, .agg #[.int .i64 x.f0, .int .i64 x.f1.f0, .int .i64 x.f1.f1, .int .i64 x.f1.f2, .int .i64 x.f1.f3, .int .i64 x.f2.f0, .int .i64 x.f2.f1, .int .i64 x.f3, .int .i64 x.f4, .bool x.f5])) 12 rfl rfl (hon 12 (by kernel_rfl)) rfl
                          have e136 : a.tmps[136]? = some (.agg #[.int .i64 y.f0, .int .i64 y.f1.f0, .int .i64 y.f1.f1, .int .i64 y.f1.f2, .int .i64 y.f1.f3, .int .i64 y.f2.f0, .int .i64 y.f2.f1, .int .i64 y.f3, .int .i64 y.f4, .bool y.f5]) := by rw [ha]; exact putSel_on (e := (16, 136, .agg #[.int .i64 y.f0, .int .i64 y.f1.f0, .int .i64 y.f1.f1, .int .i64 y.f1.f2, .int .i64 y.f1.f3, .int .i64 y.f2.f0, .int .i64 y.f2.f1, .int .i64 y.f3, .int .i64 y.f4, .bool y.f5])) 16 rfl rfl (hon 16 (by kernel_rfl)) rfl
                          replace ha := Aside0.mk ha
                          have HBr := Aside0.mk Q_HBr
                          have SAW := Aside0.mk Q_SAW
                          refine goes_ Tryd.func23 (by kernel_rfl) rfl #[.agg #[.int .i64 x.f0, .int .i64 x.f1.f0, .int .i64 x.f1.f1, .int .i64 x.f1.f2, .int .i64 x.f1.f3, .int .i64 x.f2.f0, .int .i64 x.f2.f1, .int .i64 x.f3, .int .i64 x.f4, .bool x.f5], .agg #[.int .i64 y.f0, .int .i64 y.f1.f0, .int .i64 y.f1.f1, .int .i64 y.f1.f2, .int .i64 y.f1.f3, .int .i64 y.f2.f0, .int .i64 y.f2.f1, .int .i64 y.f3, .int .i64 y.f4, .bool y.f5]] (by rfl) rfl rfl (by first | (simp only [List.map_toArray, List.map_cons, List.map_nil, Act.eval, Array.getD_eq_getD_getElem?, Option.getD_some, e132, e136]; done) | (simp only [List.map_toArray, List.map_cons, List.map_nil, Act.eval, Array.getD_eq_getD_getElem?, Option.getD_some, e132, e136]; rfl)) ?_
                          refine (rahead_c x y w').mono ?_
                          rintro e w1 ⟨hr_, hb1⟩
                          rw [HBB.out] at hr_
                          subst hr_
                          refine ⟨_, rfl, ?_⟩
                          refine hK.out _ _ ⟨(by rw [ha.out]; exact putSel_upk 17 hb_ rfl rfl rfl), below_step HBr.out hb1, Sl_below SAW.out hb1⟩
                        refine steps_cons ?_ ?_
                        · rintro b a w' ⟨ha, Q_HBr, Q_SAW⟩ hb_ hon hoff
                          refine ⟨_, rfl, fun K hK => ?_⟩
                          have e128 : a.tmps[128]? = some (.bool bb) := by rw [ha]; exact putSel_on (e := (8, 128, .bool bb)) 8 rfl rfl (hon 8 (by kernel_rfl)) rfl
                          have e137 : a.tmps[137]? = some (.bool bb) := by rw [ha]; exact putSel_on (e := (17, 137, .bool bb)) 17 rfl rfl (hon 17 (by kernel_rfl)) rfl
                          replace ha := Aside0.mk ha
                          have HBr := Aside0.mk Q_HBr
                          have SAW := Aside0.mk Q_SAW
                          refine value_ (w1 := w') (v := .bool false) ?cA ?cB ?_ ?_
                          case cA => rfl
                          case cB => rfl
                          · go_simp
                            (try simp only [i64_w])
                            try rfl
                          refine hK.out _ _ ⟨(by rw [ha.out]; exact putSel_upk 18 hb_ rfl rfl rfl), Q_HBr, Q_SAW⟩
                        exact steps_nil
                      rintro b a w' hall ⟨ha, Q_HBr, Q_SAW⟩
                      clear HBr SAW
                      have hb0_ := hall 0 (by kernel_rfl)
                      have hb1_ := hall 1 (by kernel_rfl)
                      have hb2_ := hall 2 (by kernel_rfl)
                      have hb3_ := hall 3 (by kernel_rfl)
                      have hb4_ := hall 4 (by kernel_rfl)
                      have hb5_ := hall 5 (by kernel_rfl)
                      have hb6_ := hall 6 (by kernel_rfl)
                      have hb7_ := hall 7 (by kernel_rfl)
                      have hb8_ := hall 8 (by kernel_rfl)
                      have hb9_ := hall 9 (by kernel_rfl)
                      have hb10_ := hall 10 (by kernel_rfl)
                      have hb11_ := hall 11 (by kernel_rfl)
                      have hb12_ := hall 12 (by kernel_rfl)
                      have hb13_ := hall 13 (by kernel_rfl)
                      have hb14_ := hall 14 (by kernel_rfl)
                      have hb15_ := hall 15 (by kernel_rfl)
                      have hb16_ := hall 16 (by kernel_rfl)
                      have hb17_ := hall 17 (by kernel_rfl)
                      have hb18_ := hall 18 (by kernel_rfl)
                      subst ha
                      simp only [putSel, hb0_, hb1_, hb2_, hb3_, hb4_, hb5_, hb6_, hb7_, hb8_, hb9_, hb10_, hb11_, hb12_, hb13_, hb14_, hb15_, hb16_, hb17_, hb18_, if_true, Act.put, List.setIfInBounds_toArray, List.set_cons_zero, List.set_cons_succ]
                      have HBr := Aside0.mk Q_HBr
                      clear Q_HBr
                      have SAW := Aside0.mk Q_SAW
                      clear Q_SAW
                      clear hall hb0_ hb1_ hb2_ hb3_ hb4_ hb5_ hb6_ hb7_ hb8_ hb9_ hb10_ hb11_ hb12_ hb13_ hb14_ hb15_ hb16_ hb17_ hb18_
                      go_wp2
                      go_roundw
                      case rel => exact ⟨j + 1, by omega, by go_num, HBr.out, SAW.out⟩
                      case measure => simp [intOf]; omega
                    · have jk : (j : Int) < (l2.length : Int) := by omega
                      have j20k : ¬ (j : Int) < 20 := by omega
                      go_wp2
                      go_roundw
                      case rel => exact ⟨i + 1, by omega, by go_num, HB.out, SA.out⟩
                      case measure => simp [intOf]; omega
                  · have jk : ¬ (j : Int) < (l2.length : Int) := by omega
                    go_wp2
                    go_roundw
                    case rel => exact ⟨i + 1, by omega, by go_num, HB.out, SA.out⟩
                    case measure => simp [intOf]; omega
              · have ik : (i : Int) < (l2.length : Int) := by omega
                have i20k : ¬ (i : Int) < 20 := by omega
                go_wp2_with fail
                refine (same_c (Sl_below S2.out HB.out) SA.out).mono ?_
                rintro e w3 ⟨rfl, hb⟩
                replace SA := Aside0.mk (Sl_below SA.out hb)
                replace HB := Aside0.mk (below_step HB.out hb)
                clear hb
                go_wp2_with fail
                refine (rsame_c (Sl_below S2.out HB.out) SA.out).mono ?_
                rintro e w3 ⟨rfl, hb⟩
                replace SA := Aside0.mk (Sl_below SA.out hb)
                replace HB := Aside0.mk (below_step HB.out hb)
                clear hb
                clear SA
                obtain ⟨dd, hdd⟩ : ∃ d, d = decide (l2 = rowsL l1) := ⟨_, rfl⟩
                rw [← hdd]
                clear hdd
                go_wp2_with fail
                refine (same_y (Sl_below S2.out HB.out) (Sl_below S2.out HB.out) rfl).mono ?_
                rintro e w3 ⟨rfl, hb⟩
                replace HB := Aside0.mk (below_step HB.out hb)
                clear hb
                go_wp2
                go_ret
                exact ⟨ret_bool (by simp), HB.out⟩
            · have ik : ¬ (i : Int) < (l2.length : Int) := by omega
              go_wp2_with fail
              refine (same_c (Sl_below S2.out HB.out) SA.out).mono ?_
              rintro e w3 ⟨rfl, hb⟩
              replace SA := Aside0.mk (Sl_below SA.out hb)
              replace HB := Aside0.mk (below_step HB.out hb)
              clear hb
              go_wp2_with fail
              refine (rsame_c (Sl_below S2.out HB.out) SA.out).mono ?_
              rintro e w3 ⟨rfl, hb⟩
              replace SA := Aside0.mk (Sl_below SA.out hb)
              replace HB := Aside0.mk (below_step HB.out hb)
              clear hb
              clear SA
              obtain ⟨dd, hdd⟩ : ∃ d, d = decide (l2 = rowsL l1) := ⟨_, rfl⟩
              rw [← hdd]
              clear hdd
              go_wp2_with fail
              refine (same_y (Sl_below S2.out HB.out) (Sl_below S2.out HB.out) rfl).mono ?_
              rintro e w3 ⟨rfl, hb⟩
              replace HB := Aside0.mk (below_step HB.out hb)
              clear hb
              go_wp2
              go_ret
              exact ⟨ret_bool (by simp), HB.out⟩
        | some out =>
          have hof1 : (ofM l2).isSome = true := by rw [ho]; rfl
          have HOF := Aside0.mk hof1
          clear hof1
          go_wp2_with fail
          refine (of_ok ho (Sl_below S2.out HB.out) (by omega) HV2.out ((HS.out.below HB.out).cell 0 (by decide)) ((HS.out.below HB.out).cell 4 (by decide))).mono ?_
          rintro e w3 ⟨vc, rfl, hx, hb⟩
          have SC := Aside0.mk ((show Sl k44 w3 vc (ofL l2) from by unfold ofL; rw [ho]; exact hx))
          replace SA := Aside0.mk (Sl_below SA.out hb)
          replace HCO := Aside0.mk (CodeIs_below HCO.out hb)
          replace SB := Aside0.mk (Sl_below SB.out hb)
          replace HB := Aside0.mk (below_step HB.out hb)
          clear hb
          clear hx ho
          go_wp2_with fail
          refine (rof_b (Sl_below S2.out HB.out) (by omega)).mono ?_
          rintro e w3 ⟨vd, rfl, hx, hb⟩
          have SD := Aside0.mk (hx)
          replace SA := Aside0.mk (Sl_below SA.out hb)
          replace HCO := Aside0.mk (CodeIs_below HCO.out hb)
          replace SB := Aside0.mk (Sl_below SB.out hb)
          replace SC := Aside0.mk (Sl_below SC.out hb)
          replace HB := Aside0.mk (below_step HB.out hb)
          clear hb
          clear hx
          rw [HOF.out]
          go_wp2_with fail
          refine (events_b (Sl_below S0.out HB.out) (by omega)).mono ?_
          rintro e w3 ⟨v1, rfl, hx, hb⟩
          have SE := Aside0.mk (hx)
          replace SA := Aside0.mk (Sl_below SA.out hb)
          replace HCO := Aside0.mk (CodeIs_below HCO.out hb)
          replace SB := Aside0.mk (Sl_below SB.out hb)
          replace SC := Aside0.mk (Sl_below SC.out hb)
          replace SD := Aside0.mk (Sl_below SD.out hb)
          replace HB := Aside0.mk (below_step HB.out hb)
          clear hb
          clear hx
          go_wp2_with fail
          refine (revents_b (Sl_below S0.out HB.out) (by omega)).mono ?_
          rintro e w3 ⟨v2, rfl, hx, hb⟩
          have SF := Aside0.mk (hx)
          replace SA := Aside0.mk (Sl_below SA.out hb)
          replace HCO := Aside0.mk (CodeIs_below HCO.out hb)
          replace SB := Aside0.mk (Sl_below SB.out hb)
          replace SC := Aside0.mk (Sl_below SC.out hb)
          replace SD := Aside0.mk (Sl_below SD.out hb)
          replace SE := Aside0.mk (Sl_below SE.out hb)
          replace HB := Aside0.mk (below_step HB.out hb)
          clear hb
          clear hx
          go_wp2_with fail
          refine (alike_y SE.out SF.out rfl).mono ?_
          rintro e w3 ⟨rfl, hb⟩
          replace SA := Aside0.mk (Sl_below SA.out hb)
          replace HCO := Aside0.mk (CodeIs_below HCO.out hb)
          replace SB := Aside0.mk (Sl_below SB.out hb)
          replace SC := Aside0.mk (Sl_below SC.out hb)
          replace SD := Aside0.mk (Sl_below SD.out hb)
          replace HB := Aside0.mk (below_step HB.out hb)
          clear hb
          clear SE SF
          go_wp2_with fail
          refine (rsame_y SA.out SB.out).mono ?_
          rintro e w3 ⟨rfl, hb⟩
          replace SA := Aside0.mk (Sl_below SA.out hb)
          replace HCO := Aside0.mk (CodeIs_below HCO.out hb)
          replace SC := Aside0.mk (Sl_below SC.out hb)
          replace SD := Aside0.mk (Sl_below SD.out hb)
          replace HB := Aside0.mk (below_step HB.out hb)
          clear hb
          clear SB
          go_wp2_with fail
          refine (code_b HCO.out (HS.out.below HB.out)).mono ?_
          rintro e w3 ⟨rfl, hw3⟩
          rw [hw3]
          clear hw3 HCO w3
          go_wp2_with fail
          refine (alike_y SC.out SD.out rfl).mono ?_
          rintro e w3 ⟨rfl, hb⟩
          replace SA := Aside0.mk (Sl_below SA.out hb)
          replace HB := Aside0.mk (below_step HB.out hb)
          clear hb
          clear SC SD
          go_wp2_with fail
          refine (whole_b (Sl_below S2.out HB.out) (by omega)).mono ?_
          rintro e w3 ⟨v3, rfl, hx, hb⟩
          have SE := Aside0.mk (hx)
          replace SA := Aside0.mk (Sl_below SA.out hb)
          replace HB := Aside0.mk (below_step HB.out hb)
          clear hb
          clear hx
          go_wp2_with fail
          refine (rwhole_b (Sl_below S2.out HB.out) (by omega)).mono ?_
          rintro e w3 ⟨v4, rfl, hx, hb⟩
          have SF := Aside0.mk (hx)
          replace SA := Aside0.mk (Sl_below SA.out hb)
          replace SE := Aside0.mk (Sl_below SE.out hb)
          replace HB := Aside0.mk (below_step HB.out hb)
          clear hb
          clear hx
          go_wp2_with fail
          refine (rsame_y SE.out SF.out).mono ?_
          rintro e w3 ⟨rfl, hb⟩
          replace SA := Aside0.mk (Sl_below SA.out hb)
          replace HB := Aside0.mk (below_step HB.out hb)
          clear hb
          clear SE SF
          go_wp2
          go_loopw [15] (fun m wr => ∃ i : Nat, i ≤ l2.length ∧ m = .int .i64 i ∧ Below w.heap.size w wr ∧ Sl k40 wr va (rowsL l1)) (fun m _ => l2.length - (intOf m).toNat)
          case atStart => exact ⟨0, Nat.zero_le _, rfl, HB.out, SA.out⟩
          case round =>
            clear HB SA
            obtain ⟨i, hi, rfl, hb, ha⟩ := hrel
            have HB := Aside0.mk hb
            have SA := Aside0.mk ha
            clear hb ha
            by_cases hi1 : i < l2.length
            · by_cases hi20 : i < 20
              · have ik : (i : Int) < (l2.length : Int) := by omega
                have i20k : (i : Int) < 20 := by omega
                go_wp2
                go_loopw [16] (fun m wr => ∃ j : Nat, j ≤ l2.length ∧ m = .int .i64 j ∧ Below w.heap.size w wr ∧ Sl k40 wr va (rowsL l1)) (fun m _ => l2.length - (intOf m).toNat)
                case atStart => exact ⟨0, Nat.zero_le _, rfl, HB.out, SA.out⟩
                case round =>
                  clear HB SA
                  obtain ⟨j, hj, rfl, hb, ha⟩ := hrel
                  have HB := Aside0.mk hb
                  have SA := Aside0.mk ha
                  clear hb ha
                  by_cases hj1 : j < l2.length
                  · by_cases hj20 : j < 20
                    · have jk : (j : Int) < (l2.length : Int) := by omega
                      have j20k : (j : Int) < 20 := by omega
                      obtain ⟨ad, eA, r0, r1, r2, r3, r4, r5, r6, r7, r8, r9⟩ := at_T40 HC2.out (j : Int) (by omega) (by omega)
                      simp only [Int.toNat_natCast] at r0 r1 r2 r3 r4 r5 r6 r7 r8 r9
                      cases eA
                      obtain ⟨x, hx⟩ : ∃ x, x = rd_T40 l2 (i : Int) := ⟨_, rfl⟩
                      obtain ⟨y, hy⟩ : ∃ y, y = rd_T40 l2 (j : Int) := ⟨_, rfl⟩
                      obtain ⟨ad_, eA_, q0, q1, q2, q3, q4, q5, q6, q7, q8, q9⟩ := at_T40 HC2.out (i : Int) (by omega) (by omega)
                      simp only [Int.toNat_natCast] at q0 q1 q2 q3 q4 q5 q6 q7 q8 q9
                      cases eA_
                      rw [← hx] at q0 q1 q2 q3 q4 q5 q6 q7 q8 q9
                      rw [← hy] at r0 r1 r2 r3 r4 r5 r6 r7 r8 r9
                      have QX0 := Aside0.mk q0
                      have QX1 := Aside0.mk q1
                      have QX2 := Aside0.mk q2
                      have QX3 := Aside0.mk q3
                      have QX4 := Aside0.mk q4
                      have QX5 := Aside0.mk q5
                      have QX6 := Aside0.mk q6
                      have QX7 := Aside0.mk q7
                      have QX8 := Aside0.mk q8
                      have QX9 := Aside0.mk q9
                      have QY0 := Aside0.mk r0
                      have QY1 := Aside0.mk r1
                      have QY2 := Aside0.mk r2
                      have QY3 := Aside0.mk r3
                      have QY4 := Aside0.mk r4
                      have QY5 := Aside0.mk r5
                      have QY6 := Aside0.mk r6
                      have QY7 := Aside0.mk r7
                      have QY8 := Aside0.mk r8
                      have QY9 := Aside0.mk r9
                      obtain ⟨bb, hbb⟩ : ∃ b, b = aheadB x y := ⟨_, rfl⟩
                      have HBB := Aside0.mk hbb.symm
                      clear hbb hx hy q0 r0 q1 r1 q2 r2 q3 r3 q4 r4 q5 r5 q6 r6 q7 r7 q8 r8 q9 r9
                      go_wp2
                      have SAW := SA
                      clear SA
                      refine start_ (n := 19) (S := fun w' => True) (ds := []) #[false, false, false, false, false, false, false, false, false, false, false, false, false, false, false, false, false, false, false] (by kernel_rfl) rfl rfl trivial (fun hHeld => ?_)
                      refine with_tabW exa17.tab17 exa17.bits17 (fun HT_ HW_ => ?_)
                      have HBr := Aside0.mk (below_drew1 HB.out)
                      refine inv_at [0, 1, 2, 3, 4, 5, 6, 7, 8, 9, 10, 11, 12, 13, 14, 15, 16, 17, 18] (fun a0_ b a w' => a = putSel a0_ b [(0, 120, .slice (some ad) l2.length c2), (1, 121, .int .i64 (i : Int)), (2, 122, .pointer (some (ad.add (i * 10)))), (3, 123, .agg #[.int .i64 x.f0, .int .i64 x.f1.f0, .int .i64 x.f1.f1, .int .i64 x.f1.f2, .int .i64 x.f1.f3, .int .i64 x.f2.f0, .int .i64 x.f2.f1, .int .i64 x.f3, .int .i64 x.f4, .bool x.f5]), (4, 124, .slice (some ad) l2.length c2), (5, 125, .int .i64 (j : Int)), (6, 126, .pointer (some (ad.add (j * 10)))), (7, 127, .agg #[.int .i64 y.f0, .int .i64 y.f1.f0, .int .i64 y.f1.f1, .int .i64 y.f1.f2, .int .i64 y.f1.f3, .int .i64 y.f2.f0, .int .i64 y.f2.f1, .int .i64 y.f3, .int .i64 y.f4, .bool y.f5]), (8, 128, .bool bb), (9, 129, .slice (some ad) l2.length c2), (10, 130, .int .i64 (i : Int)), (11, 131, .pointer (some (ad.add (i * 10)))), (12, 132, .agg #[.int .i64 x.f0, .int .i64 x.f1.f0, .int .i64 x.f1.f1, .int .i64 x.f1.f2, .int .i64 x.f1.f3, .int .i64 x.f2.f0, .int .i64 x.f2.f1, .int .i64 x.f3, .int .i64 x.f4, .bool x.f5]), (13, 133, .slice (some ad) l2.length c2), (14, 134, .int .i64 (j : Int)), (15, 135, .pointer (some (ad.add (j * 10)))), (16, 136, .agg #[.int .i64 y.f0, .int .i64 y.f1.f0, .int .i64 y.f1.f1, .int .i64 y.f1.f2, .int .i64 y.f1.f3, .int .i64 y.f2.f0, .int .i64 y.f2.f1, .int .i64 y.f3, .int .i64 y.f4, .bool y.f5]), (17, 137, .bool bb), (18, 138, .bool false)] ∧ (Below w.heap.size w w') ∧ (Sl k40 w' va (rowsL l1))) HT_.out HW_.out (by kernel_rfl) (by kernel_rfl) ?_ ?_ ?_
                      · exact ⟨by simp only [putSel, Bool.false_eq_true, if_false], HBr.out, Sl_below SAW.out (below_drew (Below.refl _ _))⟩
                      · skip
                        clear HBr SAW
                        refine steps_cons ?_ ?_
                        · rintro b a w' ⟨ha, Q_HBr, Q_SAW⟩ hb_ hon hoff
                          refine ⟨_, rfl, fun K hK => ?_⟩
                          have e2 : a.tmps[2]? = some (.slice (some ad) l2.length c2) := by rw [ha]; exact (putSel_off rfl).trans rfl
                          replace ha := Aside0.mk ha
                          have HBr := Aside0.mk Q_HBr
                          have SAW := Aside0.mk Q_SAW
                          refine value_ (w1 := w') (v := .slice (some ad) l2.length c2) ?cA ?cB ?_ ?_
                          case cA => rfl
                          case cB => rfl
                          · go_simp
                            (try simp only [i64_w])
                            try rfl
                          refine hK.out _ _ ⟨(by rw [ha.out]; exact putSel_upk 0 hb_ rfl rfl rfl), Q_HBr, Q_SAW⟩
                        refine steps_cons ?_ ?_
                        · rintro b a w' ⟨ha, Q_HBr, Q_SAW⟩ hb_ hon hoff
                          refine ⟨_, rfl, fun K hK => ?_⟩
                          have e15 : a.tmps[15]? = some (.int .i64 (i : Int)) := by rw [ha]; exact (putSel_off rfl).trans rfl
                          replace ha := Aside0.mk ha
                          have HBr := Aside0.mk Q_HBr
                          have SAW := Aside0.mk Q_SAW
                          refine value_ (w1 := w') (v := .int .i64 (i : Int)) ?cA ?cB ?_ ?_
                          case cA => rfl
                          case cB => rfl
                          · go_simp
                            (try simp only [i64_w])
                            try rfl
                          refine hK.out _ _ ⟨(by rw [ha.out]; exact putSel_upk 1 hb_ rfl rfl rfl), Q_HBr, Q_SAW⟩
                        refine steps_cons ?_ ?_
                        · rintro b a w' ⟨ha, Q_HBr, Q_SAW⟩ hb_ hon hoff
                          refine ⟨_, rfl, fun K hK => ?_⟩
                          have e120 : a.tmps[120]? = some (.slice (some ad) l2.length c2) := by rw [ha]; exact putSel_on (e := (0, 120, .slice (some ad) l2.length c2)) 0 rfl rfl (hon 0 (by kernel_rfl)) rfl
                          have e121 : a.tmps[121]? = some (.int .i64 (i : Int)) := by rw [ha]; exact putSel_on (e := (1, 121, .int .i64 (i : Int))) 1 rfl rfl (hon 1 (by kernel_rfl)) rfl
                          replace ha := Aside0.mk ha
                          have HBr := Aside0.mk Q_HBr
                          have SAW := Aside0.mk Q_SAW
                          refine value_ (w1 := w') (v := .pointer (some (ad.add (i * 10)))) ?cA ?cB ?_ ?_
                          case cA => rfl
                          case cB => rfl
                          · go_simp
                            (try simp only [i64_w])
                            try rfl
                          refine hK.out _ _ ⟨(by rw [ha.out]; exact putSel_upk 2 hb_ rfl rfl rfl), Q_HBr, Q_SAW⟩
                        refine steps_cons ?_ ?_
                        · rintro b a w' ⟨ha, Q_HBr, Q_SAW⟩ hb_ hon hoff
                          refine ⟨_, rfl, fun K hK => ?_⟩
                          have e122 : a.tmps[122]? = some (.pointer (some (ad.add (i * 10)))) := by rw [ha]; exact putSel_on (e := (2, 122, .pointer (some (ad.add (i * 10))))) 2 rfl rfl (hon 2 (by kernel_rfl)) rfl
                          replace ha := Aside0.mk ha
                          have HBr := Aside0.mk Q_HBr
                          have SAW := Aside0.mk Q_SAW
                          have z0_ := pw_cell_below HBr.out QX0.out
                          have z1_ := pw_cell_below HBr.out QX1.out
                          have z2_ := pw_cell_below HBr.out QX2.out
                          have z3_ := pw_cell_below HBr.out QX3.out
                          have z4_ := pw_cell_below HBr.out QX4.out
                          have z5_ := pw_cell_below HBr.out QX5.out
                          have z6_ := pw_cell_below HBr.out QX6.out
                          have z7_ := pw_cell_below HBr.out QX7.out
                          have z8_ := pw_cell_below HBr.out QX8.out
                          have z9_ := pw_cell_below HBr.out QX9.out
                          refine value_ (w1 := w') (v := .agg #[.int .i64 x.f0, .int .i64 x.f1.f0, .int .i64 x.f1.f1, .int .i64 x.f1.f2, .int .i64 x.f1.f3, .int .i64 x.f2.f0, .int .i64 x.f2.f1, .int .i64 x.f3, .int .i64 x.f4, .bool x.f5]) ?cA ?cB ?_ ?_
                          case cA => rfl
                          case cB => rfl
                          · go_simp
                            (try simp only [i64_w])
                            try rfl
                          refine hK.out _ _ ⟨(by rw [ha.out]; exact putSel_upk 3 hb_ rfl rfl rfl), Q_HBr, Q_SAW⟩
                        refine steps_cons ?_ ?_
                        · rintro b a w' ⟨ha, Q_HBr, Q_SAW⟩ hb_ hon hoff
                          refine ⟨_, rfl, fun K hK => ?_⟩
                          have e2 : a.tmps[2]? = some (.slice (some ad) l2.length c2) := by rw [ha]; exact (putSel_off rfl).trans rfl
                          replace ha := Aside0.mk ha
                          have HBr := Aside0.mk Q_HBr
                          have SAW := Aside0.mk Q_SAW
                          refine value_ (w1 := w') (v := .slice (some ad) l2.length c2) ?cA ?cB ?_ ?_
                          case cA => rfl
                          case cB => rfl
                          · go_simp
                            (try simp only [i64_w])
                            try rfl
                          refine hK.out _ _ ⟨(by rw [ha.out]; exact putSel_upk 4 hb_ rfl rfl rfl), Q_HBr, Q_SAW⟩
                        refine steps_cons ?_ ?_
                        · rintro b a w' ⟨ha, Q_HBr, Q_SAW⟩ hb_ hon hoff
                          refine ⟨_, rfl, fun K hK => ?_⟩
                          have e16 : a.tmps[16]? = some (.int .i64 (j : Int)) := by rw [ha]; exact (putSel_off rfl).trans rfl
                          replace ha := Aside0.mk ha
                          have HBr := Aside0.mk Q_HBr
                          have SAW := Aside0.mk Q_SAW
                          refine value_ (w1 := w') (v := .int .i64 (j : Int)) ?cA ?cB ?_ ?_
                          case cA => rfl
                          case cB => rfl
                          · go_simp
                            (try simp only [i64_w])
                            try rfl
                          refine hK.out _ _ ⟨(by rw [ha.out]; exact putSel_upk 5 hb_ rfl rfl rfl), Q_HBr, Q_SAW⟩
                        refine steps_cons ?_ ?_
                        · rintro b a w' ⟨ha, Q_HBr, Q_SAW⟩ hb_ hon hoff
                          refine ⟨_, rfl, fun K hK => ?_⟩
                          have e124 : a.tmps[124]? = some (.slice (some ad) l2.length c2) := by rw [ha]; exact putSel_on (e := (4, 124, .slice (some ad) l2.length c2)) 4 rfl rfl (hon 4 (by kernel_rfl)) rfl
                          have e125 : a.tmps[125]? = some (.int .i64 (j : Int)) := by rw [ha]; exact putSel_on (e := (5, 125, .int .i64 (j : Int))) 5 rfl rfl (hon 5 (by kernel_rfl)) rfl
                          replace ha := Aside0.mk ha
                          have HBr := Aside0.mk Q_HBr
                          have SAW := Aside0.mk Q_SAW
                          refine value_ (w1 := w') (v := .pointer (some (ad.add (j * 10)))) ?cA ?cB ?_ ?_
                          case cA => rfl
                          case cB => rfl
                          · go_simp
                            (try simp only [i64_w])
                            try rfl
                          refine hK.out _ _ ⟨(by rw [ha.out]; exact putSel_upk 6 hb_ rfl rfl rfl), Q_HBr, Q_SAW⟩
                        refine steps_cons ?_ ?_
                        · rintro b a w' ⟨ha, Q_HBr, Q_SAW⟩ hb_ hon hoff
                          refine ⟨_, rfl, fun K hK => ?_⟩
                          have e126 : a.tmps[126]? = some (.pointer (some (ad.add (j * 10)))) := by rw [ha]; exact putSel_on (e := (6, 126, .pointer (some (ad.add (j * 10))))) 6 rfl rfl (hon 6 (by kernel_rfl)) rfl
                          replace ha := Aside0.mk ha
                          have HBr := Aside0.mk Q_HBr
                          have SAW := Aside0.mk Q_SAW
                          have z0_ := pw_cell_below HBr.out QY0.out
                          have z1_ := pw_cell_below HBr.out QY1.out
                          have z2_ := pw_cell_below HBr.out QY2.out
                          have z3_ := pw_cell_below HBr.out QY3.out
                          have z4_ := pw_cell_below HBr.out QY4.out
                          have z5_ := pw_cell_below HBr.out QY5.out
                          have z6_ := pw_cell_below HBr.out QY6.out
                          have z7_ := pw_cell_below HBr.out QY7.out
                          have z8_ := pw_cell_below HBr.out QY8.out
                          have z9_ := pw_cell_below HBr.out QY9.out
                          refine value_ (w1 := w') (v := .agg #[.int .i64 y.f0, .int .i64 y.f1.f0, .int .i64 y.f1.f1, .int .i64 y.f1.f2, .int .i64 y.f1.f3, .int .i64 y.f2.f0, .int .i64 y.f2.f1, .int .i64 y.f3, .int .i64 y.f4, .bool y.f5]) ?cA ?cB ?_ ?_
                          case cA => rfl
                          case cB => rfl
                          · go_simp
                            (try simp only [i64_w])
                            try rfl
                          refine hK.out _ _ ⟨(by rw [ha.out]; exact putSel_upk 7 hb_ rfl rfl rfl), Q_HBr, Q_SAW⟩
                        refine steps_cons ?_ ?_
                        · rintro b a w' ⟨ha, Q_HBr, Q_SAW⟩ hb_ hon hoff
                          refine ⟨_, rfl, fun K hK => ?_⟩
                          have e123 : a.tmps[123]? = some (.agg #[.int .i64 x.f0, .int .i64 x.f1.f0, .int .i64 x.f1.f1, .int .i64 x.f1.f2, .int .i64 x.f1.f3, .int .i64 x.f2.f0, .int .i64 x.f2.f1, .int .i64 x.f3, .int .i64 x.f4, .bool x.f5]) := by rw [ha]; exact putSel_on (e := (3, 123, .agg #[.int .i64 x.f0, .int .i64 x.f1.f0, .int .i64 x.f1.f1, .int .i64 x.f1.f2, .int .i64 x.f1.f3, .int .i64 x.f2.f0, .int .i64 x.f2.f1, .int .i64 x.f3, .int .i64 x.f4, .bool x.f5])) 3 rfl rfl (hon 3 (by kernel_rfl)) rfl
                          have e127 : a.tmps[127]? = some (.agg #[.int .i64 y.f0, .int .i64 y.f1.f0, .int .i64 y.f1.f1, .int .i64 y.f1.f2, .int .i64 y.f1.f3, .int .i64 y.f2.f0, .int .i64 y.f2.f1, .int .i64 y.f3, .int .i64 y.f4, .bool y.f5]) := by rw [ha]; exact putSel_on (e := (7, 127, .agg #[.int .i64 y.f0, .int .i64 y.f1.f0, .int .i64 y.f1.f1, .int .i64 y.f1.f2, .int .i64 y.f1.f3, .int .i64 y.f2.f0, .int .i64 y.f2.f1, .int .i64 y.f3, .int .i64 y.f4, .bool y.f5])) 7 rfl rfl (hon 7 (by kernel_rfl)) rfl
                          replace ha := Aside0.mk ha
                          have HBr := Aside0.mk Q_HBr
                          have SAW := Aside0.mk Q_SAW
                          refine goes_ Tryd.func13 (by kernel_rfl) rfl #[.agg #[.int .i64 x.f0, .int .i64 x.f1.f0, .int .i64 x.f1.f1, .int .i64 x.f1.f2, .int .i64 x.f1.f3, .int .i64 x.f2.f0, .int .i64 x.f2.f1, .int .i64 x.f3, .int .i64 x.f4, .bool x.f5], .agg #[.int .i64 y.f0, .int .i64 y.f1.f0, .int .i64 y.f1.f1, .int .i64 y.f1.f2, .int .i64 y.f1.f3, .int .i64 y.f2.f0, .int .i64 y.f2.f1, .int .i64 y.f3, .int .i64 y.f4, .bool y.f5]] (by rfl) rfl rfl (by first | (simp only [List.map_toArray, List.map_cons, List.map_nil, Act.eval, Array.getD_eq_getD_getElem?, Option.getD_some, e123, e127]; done) | (simp only [List.map_toArray, List.map_cons, List.map_nil, Act.eval, Array.getD_eq_getD_getElem?, Option.getD_some, e123, e127]; rfl)) ?_
                          refine (ahead_c x y w').mono ?_
                          rintro e w1 ⟨hr_, hb1⟩
                          rw [HBB.out] at hr_
                          subst hr_
                          refine ⟨_, rfl, ?_⟩
                          refine hK.out _ _ ⟨(by rw [ha.out]; exact putSel_upk 8 hb_ rfl rfl rfl), below_step HBr.out hb1, Sl_below SAW.out hb1⟩
                        refine steps_cons ?_ ?_
                        · rintro b a w' ⟨ha, Q_HBr, Q_SAW⟩ hb_ hon hoff
                          refine ⟨_, rfl, fun K hK => ?_⟩
                          have e2 : a.tmps[2]? = some (.slice (some ad) l2.length c2) := by rw [ha]; exact (putSel_off rfl).trans rfl
                          replace ha := Aside0.mk ha
                          have HBr := Aside0.mk Q_HBr
                          have SAW := Aside0.mk Q_SAW
                          refine value_ (w1 := w') (v := .slice (some ad) l2.length c2) ?cA ?cB ?_ ?_
                          case cA => rfl
                          case cB => rfl
                          · go_simp
                            (try simp only [i64_w])
                            try rfl
                          refine hK.out _ _ ⟨(by rw [ha.out]; exact putSel_upk 9 hb_ rfl rfl rfl), Q_HBr, Q_SAW⟩
                        refine steps_cons ?_ ?_
                        · rintro b a w' ⟨ha, Q_HBr, Q_SAW⟩ hb_ hon hoff
                          refine ⟨_, rfl, fun K hK => ?_⟩
                          have e15 : a.tmps[15]? = some (.int .i64 (i : Int)) := by rw [ha]; exact (putSel_off rfl).trans rfl
                          replace ha := Aside0.mk ha
                          have HBr := Aside0.mk Q_HBr
                          have SAW := Aside0.mk Q_SAW
                          refine value_ (w1 := w') (v := .int .i64 (i : Int)) ?cA ?cB ?_ ?_
                          case cA => rfl
                          case cB => rfl
                          · go_simp
                            (try simp only [i64_w])
                            try rfl
                          refine hK.out _ _ ⟨(by rw [ha.out]; exact putSel_upk 10 hb_ rfl rfl rfl), Q_HBr, Q_SAW⟩
                        refine steps_cons ?_ ?_
                        · rintro b a w' ⟨ha, Q_HBr, Q_SAW⟩ hb_ hon hoff
                          refine ⟨_, rfl, fun K hK => ?_⟩
                          have e129 : a.tmps[129]? = some (.slice (some ad) l2.length c2) := by rw [ha]; exact putSel_on (e := (9, 129, .slice (some ad) l2.length c2)) 9 rfl rfl (hon 9 (by kernel_rfl)) rfl
                          have e130 : a.tmps[130]? = some (.int .i64 (i : Int)) := by rw [ha]; exact putSel_on (e := (10, 130, .int .i64 (i : Int))) 10 rfl rfl (hon 10 (by kernel_rfl)) rfl
                          replace ha := Aside0.mk ha
                          have HBr := Aside0.mk Q_HBr
                          have SAW := Aside0.mk Q_SAW
                          refine value_ (w1 := w') (v := .pointer (some (ad.add (i * 10)))) ?cA ?cB ?_ ?_
                          case cA => rfl
                          case cB => rfl
                          · go_simp
                            (try simp only [i64_w])
                            try rfl
                          refine hK.out _ _ ⟨(by rw [ha.out]; exact putSel_upk 11 hb_ rfl rfl rfl), Q_HBr, Q_SAW⟩
                        refine steps_cons ?_ ?_
                        · rintro b a w' ⟨ha, Q_HBr, Q_SAW⟩ hb_ hon hoff
                          refine ⟨_, rfl, fun K hK => ?_⟩
                          have e131 : a.tmps[131]? = some (.pointer (some (ad.add (i * 10)))) := by rw [ha]; exact putSel_on (e := (11, 131, .pointer (some (ad.add (i * 10))))) 11 rfl rfl (hon 11 (by kernel_rfl)) rfl
                          replace ha := Aside0.mk ha
                          have HBr := Aside0.mk Q_HBr
                          have SAW := Aside0.mk Q_SAW
                          have z0_ := pw_cell_below HBr.out QX0.out
                          have z1_ := pw_cell_below HBr.out QX1.out
                          have z2_ := pw_cell_below HBr.out QX2.out
                          have z3_ := pw_cell_below HBr.out QX3.out
                          have z4_ := pw_cell_below HBr.out QX4.out
                          have z5_ := pw_cell_below HBr.out QX5.out
                          have z6_ := pw_cell_below HBr.out QX6.out
                          have z7_ := pw_cell_below HBr.out QX7.out
                          have z8_ := pw_cell_below HBr.out QX8.out
                          have z9_ := pw_cell_below HBr.out QX9.out
                          refine value_ (w1 := w') (v := .agg #[.int .i64 x.f0, .int .i64 x.f1.f0, .int .i64 x.f1.f1, .int .i64 x.f1.f2, .int .i64 x.f1.f3, .int .i64 x.f2.f0, .int .i64 x.f2.f1, .int .i64 x.f3, .int .i64 x.f4, .bool x.f5]) ?cA ?cB ?_ ?_
                          case cA => rfl
                          case cB => rfl
                          · go_simp
                            (try simp only [i64_w])
                            try rfl
                          refine hK.out _ _ ⟨(by rw [ha.out]; exact putSel_upk 12 hb_ rfl rfl rfl), Q_HBr, Q_SAW⟩
                        refine steps_cons ?_ ?_
                        · rintro b a w' ⟨ha, Q_HBr, Q_SAW⟩ hb_ hon hoff
                          refine ⟨_, rfl, fun K hK => ?_⟩
                          have e2 : a.tmps[2]? = some (.slice (some ad) l2.length c2) := by rw [ha]; exact (putSel_off rfl).trans rfl
                          replace ha := Aside0.mk ha
                          have HBr := Aside0.mk Q_HBr
                          have SAW := Aside0.mk Q_SAW
                          refine value_ (w1 := w') (v := .slice (some ad) l2.length c2) ?cA ?cB ?_ ?_
                          case cA => rfl
                          case cB => rfl
                          · go_simp
                            (try simp only [i64_w])
                            try rfl
                          refine hK.out _ _ ⟨(by rw [ha.out]; exact putSel_upk 13 hb_ rfl rfl rfl), Q_HBr, Q_SAW⟩
                        refine steps_cons ?_ ?_
                        · rintro b a w' ⟨ha, Q_HBr, Q_SAW⟩ hb_ hon hoff
                          refine ⟨_, rfl, fun K hK => ?_⟩
                          have e16 : a.tmps[16]? = some (.int .i64 (j : Int)) := by rw [ha]; exact (putSel_off rfl).trans rfl
                          replace ha := Aside0.mk ha
                          have HBr := Aside0.mk Q_HBr
                          have SAW := Aside0.mk Q_SAW
                          refine value_ (w1 := w') (v := .int .i64 (j : Int)) ?cA ?cB ?_ ?_
                          case cA => rfl
                          case cB => rfl
                          · go_simp
                            (try simp only [i64_w])
                            try rfl
                          refine hK.out _ _ ⟨(by rw [ha.out]; exact putSel_upk 14 hb_ rfl rfl rfl), Q_HBr, Q_SAW⟩
                        refine steps_cons ?_ ?_
                        · rintro b a w' ⟨ha, Q_HBr, Q_SAW⟩ hb_ hon hoff
                          refine ⟨_, rfl, fun K hK => ?_⟩
                          have e133 : a.tmps[133]? = some (.slice (some ad) l2.length c2) := by rw [ha]; exact putSel_on (e := (13, 133, .slice (some ad) l2.length c2)) 13 rfl rfl (hon 13 (by kernel_rfl)) rfl
                          have e134 : a.tmps[134]? = some (.int .i64 (j : Int)) := by rw [ha]; exact putSel_on (e := (14, 134, .int .i64 (j : Int))) 14 rfl rfl (hon 14 (by kernel_rfl)) rfl
                          replace ha := Aside0.mk ha
                          have HBr := Aside0.mk Q_HBr
                          have SAW := Aside0.mk Q_SAW
                          refine value_ (w1 := w') (v := .pointer (some (ad.add (j * 10)))) ?cA ?cB ?_ ?_
                          case cA => rfl
                          case cB => rfl
                          · go_simp
                            (try simp only [i64_w])
                            try rfl
                          refine hK.out _ _ ⟨(by rw [ha.out]; exact putSel_upk 15 hb_ rfl rfl rfl), Q_HBr, Q_SAW⟩
                        refine steps_cons ?_ ?_
                        · rintro b a w' ⟨ha, Q_HBr, Q_SAW⟩ hb_ hon hoff
                          refine ⟨_, rfl, fun K hK => ?_⟩
                          have e135 : a.tmps[135]? = some (.pointer (some (ad.add (j * 10)))) := by rw [ha]; exact putSel_on (e := (15, 135, .pointer (some (ad.add (j * 10))))) 15 rfl rfl (hon 15 (by kernel_rfl)) rfl
                          replace ha := Aside0.mk ha
                          have HBr := Aside0.mk Q_HBr
                          have SAW := Aside0.mk Q_SAW
                          have z0_ := pw_cell_below HBr.out QY0.out
                          have z1_ := pw_cell_below HBr.out QY1.out
                          have z2_ := pw_cell_below HBr.out QY2.out
                          have z3_ := pw_cell_below HBr.out QY3.out
                          have z4_ := pw_cell_below HBr.out QY4.out
                          have z5_ := pw_cell_below HBr.out QY5.out
                          have z6_ := pw_cell_below HBr.out QY6.out
                          have z7_ := pw_cell_below HBr.out QY7.out
                          have z8_ := pw_cell_below HBr.out QY8.out
                          have z9_ := pw_cell_below HBr.out QY9.out
                          refine value_ (w1 := w') (v := .agg #[.int .i64 y.f0, .int .i64 y.f1.f0, .int .i64 y.f1.f1, .int .i64 y.f1.f2, .int .i64 y.f1.f3, .int .i64 y.f2.f0, .int .i64 y.f2.f1, .int .i64 y.f3, .int .i64 y.f4, .bool y.f5]) ?cA ?cB ?_ ?_
                          case cA => rfl
                          case cB => rfl
                          · go_simp
                            (try simp only [i64_w])
                            try rfl
                          refine hK.out _ _ ⟨(by rw [ha.out]; exact putSel_upk 16 hb_ rfl rfl rfl), Q_HBr, Q_SAW⟩
                        refine steps_cons ?_ ?_
                        · rintro b a w' ⟨ha, Q_HBr, Q_SAW⟩ hb_ hon hoff
                          refine ⟨_, rfl, fun K hK => ?_⟩
                          have e132 : a.tmps[132]? = some (.agg #[.int .i64 x.f0, .int .i64 x.f1.f0, .int .i64 x.f1.f1, .int .i64 x.f1.f2, .int .i64 x.f1.f3, .int .i64 x.f2.f0, .int .i64 x.f2.f1, .int .i64 x.f3, .int .i64 x.f4, .bool x.f5]) := by rw [ha]; exact putSel_on (e := (12, 132, .agg #[.int .i64 x.f0, .int .i64 x.f1.f0, .int .i64 x.f1.f1, .int .i64 x.f1.f2, .int .i64 x.f1.f3, .int .i64 x.f2.f0, .int .i64 x.f2.f1, .int .i64 x.f3, .int .i64 x.f4, .bool x.f5])) 12 rfl rfl (hon 12 (by kernel_rfl)) rfl
                          have e136 : a.tmps[136]? = some (.agg #[.int .i64 y.f0, .int .i64 y.f1.f0, .int .i64 y.f1.f1, .int .i64 y.f1.f2, .int .i64 y.f1.f3, .int .i64 y.f2.f0, .int .i64 y.f2.f1, .int .i64 y.f3, .int .i64 y.f4, .bool y.f5]) := by rw [ha]; exact putSel_on (e := (16, 136, .agg #[.int .i64 y.f0, .int .i64 y.f1.f0, .int .i64 y.f1.f1, .int .i64 y.f1.f2, .int .i64 y.f1.f3, .int .i64 y.f2.f0, .int .i64 y.f2.f1, .int .i64 y.f3, .int .i64 y.f4, .bool y.f5])) 16 rfl rfl (hon 16 (by kernel_rfl)) rfl
                          replace ha := Aside0.mk ha
                          have HBr := Aside0.mk Q_HBr
                          have SAW := Aside0.mk Q_SAW
                          refine goes_ Tryd.func23 (by kernel_rfl) rfl #[.agg #[.int .i64 x.f0, .int .i64 x.f1.f0, .int .i64 x.f1.f1, .int .i64 x.f1.f2, .int .i64 x.f1.f3, .int .i64 x.f2.f0, .int .i64 x.f2.f1, .int .i64 x.f3, .int .i64 x.f4, .bool x.f5], .agg #[.int .i64 y.f0, .int .i64 y.f1.f0, .int .i64 y.f1.f1, .int .i64 y.f1.f2, .int .i64 y.f1.f3, .int .i64 y.f2.f0, .int .i64 y.f2.f1, .int .i64 y.f3, .int .i64 y.f4, .bool y.f5]] (by rfl) rfl rfl (by first | (simp only [List.map_toArray, List.map_cons, List.map_nil, Act.eval, Array.getD_eq_getD_getElem?, Option.getD_some, e132, e136]; done) | (simp only [List.map_toArray, List.map_cons, List.map_nil, Act.eval, Array.getD_eq_getD_getElem?, Option.getD_some, e132, e136]; rfl)) ?_
                          refine (rahead_c x y w').mono ?_
                          rintro e w1 ⟨hr_, hb1⟩
                          rw [HBB.out] at hr_
                          subst hr_
                          refine ⟨_, rfl, ?_⟩
                          refine hK.out _ _ ⟨(by rw [ha.out]; exact putSel_upk 17 hb_ rfl rfl rfl), below_step HBr.out hb1, Sl_below SAW.out hb1⟩
                        refine steps_cons ?_ ?_
                        · rintro b a w' ⟨ha, Q_HBr, Q_SAW⟩ hb_ hon hoff
                          refine ⟨_, rfl, fun K hK => ?_⟩
                          have e128 : a.tmps[128]? = some (.bool bb) := by rw [ha]; exact putSel_on (e := (8, 128, .bool bb)) 8 rfl rfl (hon 8 (by kernel_rfl)) rfl
                          have e137 : a.tmps[137]? = some (.bool bb) := by rw [ha]; exact putSel_on (e := (17, 137, .bool bb)) 17 rfl rfl (hon 17 (by kernel_rfl)) rfl
                          replace ha := Aside0.mk ha
                          have HBr := Aside0.mk Q_HBr
                          have SAW := Aside0.mk Q_SAW
                          refine value_ (w1 := w') (v := .bool false) ?cA ?cB ?_ ?_
                          case cA => rfl
                          case cB => rfl
                          · go_simp
                            (try simp only [i64_w])
                            try rfl
                          refine hK.out _ _ ⟨(by rw [ha.out]; exact putSel_upk 18 hb_ rfl rfl rfl), Q_HBr, Q_SAW⟩
                        exact steps_nil
                      rintro b a w' hall ⟨ha, Q_HBr, Q_SAW⟩
                      clear HBr SAW
                      have hb0_ := hall 0 (by kernel_rfl)
                      have hb1_ := hall 1 (by kernel_rfl)
                      have hb2_ := hall 2 (by kernel_rfl)
                      have hb3_ := hall 3 (by kernel_rfl)
                      have hb4_ := hall 4 (by kernel_rfl)
                      have hb5_ := hall 5 (by kernel_rfl)
                      have hb6_ := hall 6 (by kernel_rfl)
                      have hb7_ := hall 7 (by kernel_rfl)
                      have hb8_ := hall 8 (by kernel_rfl)
                      have hb9_ := hall 9 (by kernel_rfl)
                      have hb10_ := hall 10 (by kernel_rfl)
                      have hb11_ := hall 11 (by kernel_rfl)
                      have hb12_ := hall 12 (by kernel_rfl)
                      have hb13_ := hall 13 (by kernel_rfl)
                      have hb14_ := hall 14 (by kernel_rfl)
                      have hb15_ := hall 15 (by kernel_rfl)
                      have hb16_ := hall 16 (by kernel_rfl)
                      have hb17_ := hall 17 (by kernel_rfl)
                      have hb18_ := hall 18 (by kernel_rfl)
                      subst ha
                      simp only [putSel, hb0_, hb1_, hb2_, hb3_, hb4_, hb5_, hb6_, hb7_, hb8_, hb9_, hb10_, hb11_, hb12_, hb13_, hb14_, hb15_, hb16_, hb17_, hb18_, if_true, Act.put, List.setIfInBounds_toArray, List.set_cons_zero, List.set_cons_succ]
                      have HBr := Aside0.mk Q_HBr
                      clear Q_HBr
                      have SAW := Aside0.mk Q_SAW
                      clear Q_SAW
                      clear hall hb0_ hb1_ hb2_ hb3_ hb4_ hb5_ hb6_ hb7_ hb8_ hb9_ hb10_ hb11_ hb12_ hb13_ hb14_ hb15_ hb16_ hb17_ hb18_
                      go_wp2
                      go_roundw
                      case rel => exact ⟨j + 1, by omega, by go_num, HBr.out, SAW.out⟩
                      case measure => simp [intOf]; omega
                    · have jk : (j : Int) < (l2.length : Int) := by omega
                      have j20k : ¬ (j : Int) < 20 := by omega
                      go_wp2
                      go_roundw
                      case rel => exact ⟨i + 1, by omega, by go_num, HB.out, SA.out⟩
                      case measure => simp [intOf]; omega
                  · have jk : ¬ (j : Int) < (l2.length : Int) := by omega
                    go_wp2
                    go_roundw
                    case rel => exact ⟨i + 1, by omega, by go_num, HB.out, SA.out⟩
                    case measure => simp [intOf]; omega
              · have ik : (i : Int) < (l2.length : Int) := by omega
                have i20k : ¬ (i : Int) < 20 := by omega
                go_wp2_with fail
                refine (same_c (Sl_below S2.out HB.out) SA.out).mono ?_
                rintro e w3 ⟨rfl, hb⟩
                replace SA := Aside0.mk (Sl_below SA.out hb)
                replace HB := Aside0.mk (below_step HB.out hb)
                clear hb
                go_wp2_with fail
                refine (rsame_c (Sl_below S2.out HB.out) SA.out).mono ?_
                rintro e w3 ⟨rfl, hb⟩
                replace SA := Aside0.mk (Sl_below SA.out hb)
                replace HB := Aside0.mk (below_step HB.out hb)
                clear hb
                clear SA
                obtain ⟨dd, hdd⟩ : ∃ d, d = decide (l2 = rowsL l1) := ⟨_, rfl⟩
                rw [← hdd]
                clear hdd
                go_wp2_with fail
                refine (same_y (Sl_below S2.out HB.out) (Sl_below S2.out HB.out) rfl).mono ?_
                rintro e w3 ⟨rfl, hb⟩
                replace HB := Aside0.mk (below_step HB.out hb)
                clear hb
                go_wp2
                go_ret
                exact ⟨ret_bool (by simp), HB.out⟩
            · have ik : ¬ (i : Int) < (l2.length : Int) := by omega
              go_wp2_with fail
              refine (same_c (Sl_below S2.out HB.out) SA.out).mono ?_
              rintro e w3 ⟨rfl, hb⟩
              replace SA := Aside0.mk (Sl_below SA.out hb)
              replace HB := Aside0.mk (below_step HB.out hb)
              clear hb
              go_wp2_with fail
              refine (rsame_c (Sl_below S2.out HB.out) SA.out).mono ?_
              rintro e w3 ⟨rfl, hb⟩
              replace SA := Aside0.mk (Sl_below SA.out hb)
              replace HB := Aside0.mk (below_step HB.out hb)
              clear hb
              clear SA
              obtain ⟨dd, hdd⟩ : ∃ d, d = decide (l2 = rowsL l1) := ⟨_, rfl⟩
              rw [← hdd]
              clear hdd
              go_wp2_with fail
              refine (same_y (Sl_below S2.out HB.out) (Sl_below S2.out HB.out) rfl).mono ?_
              rintro e w3 ⟨rfl, hb⟩
              replace HB := Aside0.mk (below_step HB.out hb)
              clear hb
              go_wp2
              go_ret
              exact ⟨ret_bool (by simp), HB.out⟩
      · have i2 : (l2.length : Int) > 200 := by omega
        go_wp2
        go_ret
        exact ⟨rfl, HB.out⟩
    · have i1 : (l1.length : Int) > 200 := by omega
      go_wp2
      go_ret
      exact ⟨rfl, HB.out⟩
  · have i0 : (l0.length : Int) > 200 := by omega
    go_wp2
    go_ret
    exact ⟨rfl, HB.out⟩
end Go.Proofs.YtpejloegidailaaDoor.An
