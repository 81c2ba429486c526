/- wrapped, Back; awake. -/
import Derived.Test.YtlednfddidpcdaaDoorWoD
namespace Go.Proofs.YtlednfddidpcdaaDoor.Wo
open Go.RowKit Go.Extern.Stop Go.Stop Go.Extern Go.Proofs.YtlednfddidpcdaaDoorW.PrintWords Go.Proofs.YtlednfddidpcdaaDoorW.PrintLast Go.Proofs.YtlednfddidpcdaaDoorW.PrintMore Go.Proofs.YtlednfddidpcdaaDoor.X
set_option linter.unusedVariables false
set_option linter.unusedSimpArgs false

theorem rev_snoc (l : List Int) (k : Nat) (h : k < l.length) : (l.take (k + 1)).reverse = rd l (k : Int) :: (l.take k).reverse := by
  rw [take_snoc l 0 k h]
  simp [rd]
theorem Ch_nil (w : World) (b : Addr) : Ch w b [] (Sent b) := rfl
theorem is_yes {a b : Addr} {ps : List Int} {v : Value} {w : World} (hc : Ch w b ps v) (ha : Blk w a) (hb : Blk w b) (h : b = a) : Calls Tryd.prog 16 #[v, Sent a] w fun e w' => e = .returned (.bool true) ∧ w' = w := by
  have := is_chain hc ha hb
  rwa [decide_eq_true h] at this
theorem is_no {a b : Addr} {ps : List Int} {v : Value} {w : World} (hc : Ch w b ps v) (ha : Blk w a) (hb : Blk w b) (h : b ≠ a) : Calls Tryd.prog 16 #[v, Sent a] w fun e w' => e = .returned (.bool false) ∧ w' = w := by
  have := is_chain hc ha hb
  rwa [decide_eq_false h] at this
theorem ints_y {u v : Value} {a b : List Int} {w : World} (ha : Sl (Kd.int .i64) w u a) (hb : Sl (Kd.int .i64) w v b) (h : a = b) : Calls Tryd.prog 14 #[u, v] w fun e w' => e = .returned (.bool true) ∧ Below w.heap.size w w' := by
  have := ints_c ha hb
  rwa [decide_eq_true h] at this
set_option maxHeartbeats 2000000 in
/-- At, over all places in turn. -/
theorem wrapped_yes (s : Nat → Addr) (n : Nat) (hn : n < 11) (c : Int) (hcn : c = (n : Int) + 1) (A : Option Addr) (cc : Nat) (ps : List Int) (w : World) (hs : Sents w s) (hp : Kd.C (Kd.int .i64) w A ps.length ps) :
    Calls Tryd.prog 10 #[.int .i64 c, .slice A ps.length cc] w fun e w' => ∃ v, e = .returned v ∧ Ch w' (s (n + 1)) ps.reverse v ∧ Below w.heap.size w w' := by
  have hlen := Kd.C_max hp
  obtain ⟨b, hbs⟩ : ∃ b, b = s (n + 1) := ⟨_, rfl⟩
  have H := Aside0.mk (of_yes s n hn c hcn w hs)
  rw [← hbs] at H ⊢
  clear hs hn hcn hbs
  have HP := Aside0.mk hp
  clear hp
  go_enter Tryd.func10, Tryd.ntmps10
  go_wp2_with fail
  refine H.out.mono ?_
  rintro e w1 ⟨rfl, rfl⟩
  clear H
  go_wp2
  go_loopw [5, 6] (fun v i wr => ∃ k : Nat, k ≤ ps.length ∧ i = .int .i64 k ∧ Ch wr b (ps.take k).reverse v ∧ Below w1.heap.size w1 wr) (fun _ i _ => ps.length - (intOf i).toNat)
  case atStart => exact ⟨0, Nat.zero_le _, rfl, by rw [List.take_zero, List.reverse_nil]; exact Ch_nil _ _, Below.refl _ _⟩
  case round =>
    obtain ⟨k, hkl, rfl, hc, hb⟩ := hrel
    have HC := Aside0.mk hc
    clear hc
    have HB := Aside0.mk hb
    clear hb
    by_cases hlt : k < ps.length
    · obtain ⟨ad, eA, q0⟩ := Kd.at_int HP.out (k : Int) (by omega) (by omega)
      replace q0 := pw_cell_below HB.out q0
      simp only [Int.toNat_natCast] at q0
      cases eA
      have hrv := rev_snoc ps k hlt
      have HRV := Aside0.mk hrv
      clear hrv
      go_wp2_with fail
      refine (at_ch (rd ps (k : Int)) HC.out).mono ?_
      rintro e w2 ⟨v2, rfl, hc2, hb2⟩
      have HC2 := Aside0.mk hc2
      have HB2 := Aside0.mk (below_step HB.out hb2)
      clear hc2 hb2
      go_wp2
      go_roundw
      case rel => exact ⟨k + 1, by omega, by go_num, by rw [HRV.out]; exact HC2.out, HB2.out⟩
      case measure => simp [intOf]; omega
    · obtain rfl : k = ps.length := by omega
      have hc := HC.out
      rw [List.take_length] at hc
      go_wp2
      go_ret
      exact ⟨_, rfl, hc, HB.out⟩
theorem wrapped_no (c : Int) (hcn : c < 1 ∨ 11 < c) (A : Option Addr) (cc : Nat) (ps : List Int) (w : World) (hp : Kd.C (Kd.int .i64) w A ps.length ps) :
    Calls Tryd.prog 10 #[.int .i64 c, .slice A ps.length cc] w fun e w' => e = .returned .nilIface ∧ w' = w := by
  have hlen := Kd.C_max hp
  have HP := Aside0.mk hp
  clear hp
  go_enter Tryd.func10, Tryd.ntmps10
  go_wp2_with fail
  refine (of_no c hcn w).mono ?_
  rintro e w1 ⟨rfl, rfl⟩
  go_wp2
  go_loopw [5, 6] (fun v i wr => ∃ k : Nat, k ≤ ps.length ∧ i = .int .i64 k ∧ v = .nilIface ∧ wr = w1) (fun _ i _ => ps.length - (intOf i).toNat)
  case atStart => exact ⟨0, Nat.zero_le _, rfl, rfl, rfl⟩
  case round =>
    obtain ⟨k, hkl, rfl, rfl, rfl⟩ := hrel
    by_cases hlt : k < ps.length
    · obtain ⟨ad, eA, q0⟩ := Kd.at_int HP.out (k : Int) (by omega) (by omega)
      simp only [Int.toNat_natCast] at q0
      cases eA
      go_wp2_with fail
      refine (at_nil (rd ps (k : Int)) wr).mono ?_
      rintro e w2 ⟨rfl, rfl⟩
      go_wp2
      go_roundw
      case rel => exact ⟨k + 1, by omega, by go_num, rfl, trivial⟩
      case measure => simp [intOf]; omega
    · go_wp2
      go_ret
      exact ⟨rfl, rfl⟩
theorem drop_rev (l : List Int) (m : Nat) (h : m < l.length) : (l.drop m).reverse = (l.drop (m + 1)).reverse ++ [rd l (m : Int)] := by
  rw [List.drop_eq_getElem_cons h, List.reverse_cons]
  simp [rd, List.getD, h]
set_option maxHeartbeats 1000000 in
theorem back_c (A : Option Addr) (cc : Nat) (ps : List Int) (w : World) (hp : Kd.C (Kd.int .i64) w A ps.length ps) (hlim : ps.length ≤ 1000000) :
    Calls Tryd.prog 15 #[.slice A ps.length cc] w fun e w' => ∃ v, e = .returned v ∧ Sl (Kd.int .i64) w' v ps.reverse ∧ Below w.heap.size w w' := by
  have hlen := Kd.C_max hp
  have hR0 := R_lit_alloc (Kd.int .i64) 3 (base := w.heap.size) w (Nat.le_refl _) (xs := []) (inner := []) (Reps.none _ _) (by simp)
  have hB0 := below_alloc (Below.refl w.heap.size w) (.cells #[] 3)
  have HP := Aside0.mk hp
  clear hp
  have HR0 := Aside0.mk hR0
  clear hR0
  have HB0 := Aside0.mk hB0
  clear hB0
  go_enter Tryd.func15, Tryd.ntmps15
  go_wp2
  go_loopw [3, 4] (fun v i wr => ∃ m : Nat, m ≤ ps.length ∧ i = .int .i64 ((m : Int) - 1) ∧ Kd.R (Kd.int .i64) 3 wr w.heap.size (fun _ => True) v (ps.drop m).reverse ∧ Below w.heap.size w wr) (fun _ i _ => (intOf i + 1).toNat)
  case atStart => exact ⟨ps.length, Nat.le_refl _, rfl, by rw [List.drop_length]; exact HR0.out, HB0.out⟩
  case round =>
    clear HR0 HB0
    obtain ⟨m, hml, rfl, hR, hb⟩ := hrel
    have HR := Aside0.mk hR
    clear hR
    have HB := Aside0.mk hb
    clear hb
    by_cases hm : m = 0
    · subst hm
      have h0 : ((0 : Nat) : Int) - 1 = -1 := rfl
      rw [h0]
      have hR := HR.out
      rw [List.drop_zero] at hR
      go_wp2
      go_ret
      exact ⟨_, rfl, Sl_R hR, HB.out⟩
    · obtain ⟨m1, rfl⟩ : ∃ m1, m = m1 + 1 := ⟨m - 1, by omega⟩
      have h0 : ((m1 + 1 : Nat) : Int) - 1 = (m1 : Int) := by omega
      rw [h0]
      obtain ⟨ad, eA, q0⟩ := Kd.at_int HP.out (m1 : Int) (by omega) (by omega)
      replace q0 := pw_cell_below HB.out q0
      simp only [Int.toNat_natCast] at q0
      cases eA
      have hd := drop_rev ps m1 (by omega)
      have hl : (ps.drop (m1 + 1)).reverse.length ≤ 1000000 := by rw [List.length_reverse, List.length_drop]; omega
      have HD := Aside0.mk hd
      clear hd
      go_wp2_with ((with_reducible refine gate_builtin (b := .append) (xs := #[.tmp 13, .tmp 18]) rfl ?_); at_builtin; refine Kd.R_append (Kd.int .i64) (w0 := w) w.heap.size rfl (.tmp 13) (.tmp 18) 22 3 _ _ rfl Tryd.underlying22 info3 rfl (by decide) (by omega) u3 (ps.drop (m1 + 1)).reverse (rd ps (m1 : Int)) [.int .i64 (rd ps (m1 : Int))] (fun _ => True) (fun _ => False) rfl (by first | (go_simp; done) | (go_simp; rfl)) rfl (fun _ hk => hk.elim) (fun _ _ => trivial) HR.out HB.out (below_size HB.out) (by omega) ?_; intro v3 w3 ho hb hg hat)
      have HR2 := Aside0.mk ho
      have HB2 := Aside0.mk hb
      clear ho hb hg hat
      go_roundw
      case rel => exact ⟨m1, by omega, rfl, by rw [HD.out]; exact HR2.out, HB2.out⟩
      case measure => simp [intOf]
set_option maxHeartbeats 4000000 in
set_option maxRecDepth 100000 in
theorem awake_c (s : Nat → Addr) (w : World) (hs : Sents w s) : Calls Tryd.prog 9 #[] w fun e w' => e = .returned (.bool true) ∧ Below w.heap.size w w' := by
  have hc0 := hs.cell 2 (by decide)
  have H1 := at_ch (b := s 3) (ps := []) (v := Sent (s 3)) (w := w) 7 rfl
  have HS := Aside0.mk hs
  clear hs
  go_enter Tryd.func9, Tryd.ntmps9
  go_wp2_with fail
  refine H1.mono ?_
  rintro e w1 ⟨v1, rfl, hc1, hb1⟩
  clear hc0 H1
  have HB := Aside0.mk hb1
  have H1 := at_ch 3 hc1
  clear hc1 hb1
  go_wp2_with fail
  refine H1.mono ?_
  rintro e w2 ⟨v2, rfl, hc2, hb2⟩
  replace HB := Aside0.mk (below_step HB.out hb2)
  have HC := Aside0.mk hc2
  clear hc2 hb2 H1
  go_wp2_with fail
  refine (place_ch s _ _ _ _ (HS.out.below HB.out) HC.out).mono ?_
  rintro e w3 ⟨rfl, hb3⟩
  replace HB := Aside0.mk (below_step HB.out hb3)
  replace HC := Aside0.mk (Ch_below HC.out hb3)
  clear hb3
  simp only [plc, List.isEmpty_cons, Bool.not_false]
  go_wp2_with fail
  have hS3 := HS.out.below HB.out
  refine (code_ch s (s 3) _ v2 w3 hS3 (hS3.blk 2 (by decide)) HC.out 2 (by decide) (fun k hk e => by have := hS3.inj 2 k (by decide) (by omega) e; omega) (fun _ => rfl)).mono ?_
  rintro e w4 ⟨rfl, rfl⟩
  clear hS3
  simp only [show (2 : Nat) < 11 by decide, if_true]
  rw [show (((2 : Nat) : Int) + 1) = 3 from rfl]
  go_wp2_with fail
  refine (path_ch s (s 3) _ v2 w4 (HS.out.below HB.out) HC.out (by decide)).mono ?_
  rintro e w5 ⟨v5, rfl, hR5, hb5⟩
  replace HB := Aside0.mk (below_step HB.out hb5)
  replace HC := Aside0.mk (Ch_below HC.out hb5)
  have hS5 := Sl_R hR5
  have hb6 := below_alloc (Below.refl w5.heap.size w5) (.cells #[.int .i64 3, .int .i64 7] 3)
  have H := ints_c (Sl_below hS5 hb6) (Sl_blk (d := Kd.int .i64) (xs := [3, 7]) (blk_new w5 (.cells #[.int .i64 3, .int .i64 7] 3)) (Reps.cons (R := (Kd.int .i64).K _) (size := 1) (p := (3 : Int)) (c := [.int .i64 3]) rfl rfl (Reps.cons (R := (Kd.int .i64).K _) (size := 1) (p := (7 : Int)) (c := [.int .i64 7]) rfl rfl (Reps.none _ _))) (by simp))
  rw [decide_eq_true rfl] at H
  replace HB := Aside0.mk (below_step HB.out hb6)
  replace HC := Aside0.mk (Ch_below HC.out hb6)
  have HH := Aside0.mk H
  clear hR5 hb5 hS5 hb6 H
  go_wp2_with fail
  refine HH.out.mono ?_
  rintro e w7 ⟨rfl, hb7⟩
  replace HB := Aside0.mk (below_step HB.out hb7)
  replace HC := Aside0.mk (Ch_below HC.out hb7)
  clear hb7 HH
  have hS7 := HS.out.below HB.out
  have hc0 := hS7.cell 2 (by decide)
  have H := Aside0.mk (is_yes HC.out (hS7.blk 2 (by decide)) (hS7.blk 2 (by decide)) rfl)
  have H2 := Aside0.mk (is_no HC.out (hS7.blk 0 (by decide)) (hS7.blk 2 (by decide)) (fun e => by have := hS7.inj 2 0 (by decide) (by decide) e; omega))
  have hc1 := hS7.cell 0 (by decide)
  simp only [Nat.reduceAdd, Nat.zero_add] at hc0 hc1
  clear hS7
  go_wp2_with fail
  refine H.out.mono ?_
  rintro e w8 ⟨rfl, rfl⟩
  clear H
  go_wp2_with fail
  refine H2.out.mono ?_
  rintro e w9 ⟨rfl, rfl⟩
  clear H2
  go_wp2_with fail
  refine (at_nil 1 w9).mono ?_
  rintro e w10 ⟨rfl, rfl⟩
  go_wp2
  go_ret
  exact ⟨rfl, HB.out⟩
end Go.Proofs.YtlednfddidpcdaaDoor.Wo
