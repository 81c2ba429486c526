/- woe's functions: Of, At, Code, Place, Ints, Back. -/
import Derived.Test.YtlednfddidpcdaaDoorWoA
namespace Go.Proofs.YtlednfddidpcdaaDoor.Wo
open Go.RowKit Go.Extern.Stop Go.Stop Go.Extern Go.Proofs.YtlednfddidpcdaaDoorW.PrintWords Go.Proofs.YtlednfddidpcdaaDoor.X
set_option linter.unusedVariables false
set_option linter.unusedSimpArgs false

/-- The eleven sentinels, by their numbers; each with a block; no two the same; and errors.errorType. -/
structure Sents (w : World) (s : Nat → Addr) : Prop where
  cell : ∀ k, k < 11 → w.cell? ⟨k, 0, none⟩ = some (Sent (s (k + 1)))
  blk : ∀ k, k < 11 → Blk w (s (k + 1))
  inj : ∀ j k, j < 11 → k < 11 → s (j + 1) = s (k + 1) → j = k
  typ : w.cell? gT = some (rty 25)
theorem Sents.below {w0 w : World} {s : Nat → Addr} (h : Sents w0 s) (hb : Below w0.heap.size w0 w) : Sents w s :=
  ⟨fun k hk => pw_cell_below hb (h.cell k hk), fun k hk => by
    obtain ⟨c, t, hh⟩ := h.blk k hk
    exact ⟨c, t, blk_below hb hh⟩, h.inj, pw_cell_below hb h.typ⟩
theorem of_yes (s : Nat → Addr) (k : Nat) (hk : k < 11) (c : Int) (hck : c = (k : Int) + 1) (w : World) (hs : Sents w s) : Calls Tryd.prog 17 #[.int .i64 c] w fun e w' => e = .returned (Sent (s (k + 1))) ∧ w' = w := by
  have hc := hs.cell k hk
  clear hs
  have hk' : k = 0 ∨ k = 1 ∨ k = 2 ∨ k = 3 ∨ k = 4 ∨ k = 5 ∨ k = 6 ∨ k = 7 ∨ k = 8 ∨ k = 9 ∨ k = 10 := by omega
  rcases hk' with rfl | rfl | rfl | rfl | rfl | rfl | rfl | rfl | rfl | rfl | rfl
  all_goals
    simp at hck
    subst hck
    simp only [Nat.reduceAdd] at hc ⊢
    clear hk
    go_enter Tryd.func17, Tryd.ntmps17
    go_wp2
    go_ret
    exact ⟨rfl, rfl⟩
theorem of_no (c : Int) (hc : c < 1 ∨ 11 < c) (w : World) : Calls Tryd.prog 17 #[.int .i64 c] w fun e w' => e = .returned .nilIface ∧ w' = w := by
  have h1 : ¬ c = 1 := by omega
  have h2 : ¬ c = 2 := by omega
  have h3 : ¬ c = 3 := by omega
  have h4 : ¬ c = 4 := by omega
  have h5 : ¬ c = 5 := by omega
  have h6 : ¬ c = 6 := by omega
  have h7 : ¬ c = 7 := by omega
  have h8 : ¬ c = 8 := by omega
  have h9 : ¬ c = 9 := by omega
  have h10 : ¬ c = 10 := by omega
  have h11 : ¬ c = 11 := by omega
  clear hc
  go_enter Tryd.func17, Tryd.ntmps17
  go_wp2
  go_ret
  exact ⟨rfl, rfl⟩
theorem at_nil (n : Int) (w : World) : Calls Tryd.prog 18 #[.int .i64 n, .nilIface] w fun e w' => e = .returned .nilIface ∧ w' = w := by
  go_enter Tryd.func18, Tryd.ntmps18
  go_wp2
  go_ret
  exact ⟨rfl, rfl⟩
theorem at_ch {b : Addr} {ps : List Int} {v : Value} {w : World} (n : Int) (h : Ch w b ps v) : Calls Tryd.prog 18 #[.int .i64 n, v] w fun e w' => ∃ u, e = .returned u ∧ Ch w' b (n :: ps) u ∧ Below w.heap.size w w' := by
  obtain ⟨T, x, rfl⟩ := Ch_shape h
  have hn := run_eql_iface_nil_left (P := Tryd.prog) w T x Tryd.underlying25
  have H := Aside0.mk h
  clear h
  go_enter Tryd.func18, Tryd.ntmps18
  go_wp2
  go_ret
  have hb := below_alloc (Below.refl w.heap.size w) (.cells #[.int .i64 n, .iface T x] 45)
  exact ⟨_, rfl, ⟨_, _, rfl, blk_new _ _, Ch_below H.out hb⟩, hb⟩
set_option maxHeartbeats 2000000 in
/-- The number of a chain's sentinel: n is how many numbers it is none of. -/
theorem code_ch (s : Nat → Addr) (b : Addr) (ps : List Int) (v : Value) (w : World) (hs : Sents w s) (hb : Blk w b) (hc : Ch w b ps v) (n : Nat) (hn : n ≤ 11) (hno : ∀ k, k < n → b ≠ s (k + 1)) (hit : n < 11 → b = s (n + 1)) :
    Calls Tryd.prog 12 #[v] w fun e w' => e = .returned (.int .i64 (if n < 11 then (n : Int) + 1 else -1)) ∧ w' = w := by
  obtain ⟨T, x, rfl⟩ := Ch_shape hc
  have HS := Aside0.mk hs
  clear hs
  have HB := Aside0.mk hb
  clear hb
  have HC := Aside0.mk hc
  clear hc
  have HNO := Aside0.mk hno
  clear hno
  have HIT := Aside0.mk hit
  clear hit
  go_enter Tryd.func12, Tryd.ntmps12
  go_wp2
  go_loopw [6] (fun i wr => ∃ k : Nat, k ≤ n ∧ i = .int .i64 k ∧ wr = w) (fun i _ => 11 - (intOf i).toNat)
  case atStart => exact ⟨0, Nat.zero_le _, rfl, rfl⟩
  case round =>
    obtain ⟨k, hkn, rfl, rfl⟩ := hrel
    by_cases hlt : k < 11
    · have hk1 : (k : Int) < 11 := by omega
      go_wp2_with fail
      refine (of_yes s k hlt _ rfl wr HS.out).mono ?_
      rintro e w1 ⟨rfl, rfl⟩
      go_wp2_with fail
      refine (is_chain HC.out (HS.out.blk k hlt) HB.out).mono ?_
      rintro e w2 ⟨rfl, rfl⟩
      rcases Nat.lt_or_ge k n with hkn2 | hkn2
      · rw [decide_eq_false (HNO.out k hkn2)]
        go_wp2
        go_roundw
        case rel => exact ⟨k + 1, by omega, by go_num, trivial⟩
        case measure => simp [intOf]; omega
      · obtain rfl : k = n := by omega
        rw [decide_eq_true (HIT.out hlt)]
        go_wp2
        go_ret
        exact ⟨rfl, rfl⟩
    · have hk1 : ¬ (k : Int) < 11 := by omega
      go_wp2
      go_ret
      exact ⟨rfl, rfl⟩
theorem code_nil (w : World) : Calls Tryd.prog 12 #[.nilIface] w fun e w' => e = .returned (.int .i64 0) ∧ w' = w := by
  go_enter Tryd.func12, Tryd.ntmps12
  go_wp2
  go_ret
  exact ⟨rfl, rfl⟩
/-! ### numbers -/
set_option maxHeartbeats 1000000 in
theorem ints_c {u v : Value} {a b : List Int} {w : World} (ha : Sl (Kd.int .i64) w u a) (hb : Sl (Kd.int .i64) w v b) :
    Calls Tryd.prog 14 #[u, v] w fun e w' => e = .returned (.bool (decide (a = b))) ∧ Below w.heap.size w w' := by
  obtain ⟨A, c, rfl, _, ca⟩ := ha
  obtain ⟨B, d, rfl, _, cb⟩ := hb
  have hla := Kd.C_max ca
  have hlb := Kd.C_max cb
  have CA := Aside0.mk ca
  clear ca
  have CB := Aside0.mk cb
  clear cb
  by_cases hlen : a.length = b.length
  · have hl1 : (a.length != b.length) = false := by simp [hlen]
    have hl2 : ((a.length : Int) != (b.length : Int)) = false := by simp [hlen]
    have HLEN := Aside0.mk hlen
    clear hlen
    go_enter Tryd.func14, Tryd.ntmps14
    go_wp2
    go_loopw [5] (fun i wr => ∃ k : Nat, k ≤ a.length ∧ i = .int .i64 k ∧ Below w.heap.size w wr ∧ a.take k = b.take k) (fun i _ => a.length - (intOf i).toNat)
    case atStart => exact ⟨0, Nat.zero_le _, rfl, Below.refl _ _, rfl⟩
    case round =>
      obtain ⟨k, hkl, rfl, hb, he⟩ := hrel
      have HB := Aside0.mk hb
      clear hb
      have HE := Aside0.mk he
      clear he
      by_cases hlt : k < a.length
      · have hlt2 : k < b.length := by rw [← HLEN.out]; exact hlt
        have hkk : (0 : Int) ≤ (k : Int) := by omega
        have hkn : (k : Int) < (a.length : Int) := by omega
        have hkm : (k : Int) < (b.length : Int) := by omega
        have hta := take_snoc a 0 k hlt
        have htb := take_snoc b 0 k hlt2
        have hra : rd a (k : Int) = a.getD k 0 := by simp [rd]
        have hrb : rd b (k : Int) = b.getD k 0 := by simp [rd]
        rw [← hra] at hta
        rw [← hrb] at htb
        have HTA := Aside0.mk hta
        clear hta
        have HTB := Aside0.mk htb
        clear htb
        have HRA := Aside0.mk hra
        clear hra
        have HRB := Aside0.mk hrb
        clear hrb
        obtain ⟨ad, eA, q0⟩ := Kd.at_int CA.out (k : Int) (by omega) (by omega)
        replace q0 := pw_cell_below HB.out q0
        simp only [Int.toNat_natCast] at q0
        cases eA
        obtain ⟨ad2, eA, r0⟩ := Kd.at_int CB.out (k : Int) (by omega) (by omega)
        replace r0 := pw_cell_below HB.out r0
        simp only [Int.toNat_natCast] at r0
        cases eA
        by_cases hq : rd a (k : Int) = rd b (k : Int)
        · have he2 : a.take (k + 1) = b.take (k + 1) := by rw [HTA.out, HTB.out, HE.out, hq]
          have hq1 : (rd a (k : Int) != rd b (k : Int)) = false := by simp [hq]
          have HE2 := Aside0.mk he2
          clear he2
          have HQ := Aside0.mk hq
          clear hq
          go_wp2
          go_quiet (fail)
          go_wp2
          go_roundw
          case rel => exact ⟨k + 1, by omega, by go_num, pw_below_drewN HB.out _, HE2.out⟩
          case measure => simp [intOf]; omega
        · have hn : decide (a = b) = false := by
            simp only [decide_eq_false_iff_not]
            rintro rfl
            exact hq rfl
          have hq1 : (rd a (k : Int) != rd b (k : Int)) = true := by simp [hq]
          have HN := Aside0.mk hn
          clear hn
          have HQ := Aside0.mk hq
          clear hq
          go_wp2
          go_quiet (fail)
          go_wp2
          go_ret
          exact ⟨by rw [HN.out]; rfl, pw_below_drewN HB.out _⟩
      · go_wp2
        go_ret
        have hk' : k = a.length := by omega
        have h1 := HE.out
        rw [hk', List.take_length, HLEN.out, List.take_length] at h1
        exact ⟨by rw [h1]; simp, HB.out⟩
  · have hl1 : (a.length != b.length) = true := by simp [hlen]
    have hl2 : ((a.length : Int) != (b.length : Int)) = true := by simp; omega
    have hf : decide (a = b) = false := by simp; rintro rfl; exact hlen rfl
    rw [hf]
    clear hlen hf
    go_enter Tryd.func14, Tryd.ntmps14
    go_wp2
    go_ret
    exact ⟨rfl, Below.refl _ _⟩
end Go.Proofs.YtlednfddidpcdaaDoor.Wo
