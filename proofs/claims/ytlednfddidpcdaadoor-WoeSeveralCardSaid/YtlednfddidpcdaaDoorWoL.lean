/- WoeSeveral's walk. (Partly printed by gen_several.py.) -/
import Derived.Test.YtlednfddidpcdaaDoorWoK
namespace Go.Proofs.YtlednfddidpcdaaDoor.Wo
open Go.RowKit Go.Extern.Stop Go.Stop Go.Extern Go.Proofs.YtlednfddidpcdaaDoorW.PrintWords Go.Proofs.YtlednfddidpcdaaDoorW.PrintLast Go.Proofs.YtlednfddidpcdaaDoorW.PrintMore Go.Proofs.YtlednfddidpcdaaDoor.X
set_option linter.unusedVariables false
set_option linter.unusedSimpArgs false

theorem u_pos (a : Int) : 0 ≤ IntKind.u64.wrap a := by
  have h : IntKind.u64.wrap a = a % 18446744073709551616 := by simp [IntKind.wrap, IntKind.bits, IntKind.signed]
  rw [h]
  exact Int.emod_nonneg _ (by decide)
theorem u_rem (a : Int) (n : Nat) : ∃ k : Nat, (IntKind.u64.wrap a).tmod ((n : Int) + 1) = (k : Int) ∧ k ≤ n := by
  have h := u_pos a
  have h1 : (IntKind.u64.wrap a).tmod ((n : Int) + 1) = (IntKind.u64.wrap a) % ((n : Int) + 1) := Int.tmod_eq_emod_of_nonneg h
  have h2 := Int.emod_nonneg (IntKind.u64.wrap a) (show (n : Int) + 1 ≠ 0 by omega)
  have h3 := Int.emod_lt_of_pos (IntKind.u64.wrap a) (show (0 : Int) < (n : Int) + 1 by omega)
  exact ⟨((IntKind.u64.wrap a) % ((n : Int) + 1)).toNat, by rw [h1]; omega, by omega⟩
/-- An error that is b1 (wrapped) and b2 at once. -/
structure JoinOf (w : World) (b1 b2 : Addr) (j : Nat) : Prop where
  blk1 : Blk w b1
  blk2 : Blk w b2
  at_ : ∃ v u1 ps, w.heap[j]? = some (.cells #[v] 71 (0, 0)) ∧ Sl (Kd.raw 1) w v [[u1], [Sent b2]] ∧ Ch w b1 ps u1
theorem JoinOf_below {w w1 : World} {b1 b2 : Addr} {j : Nat} (h : JoinOf w b1 b2 j) (hb : Below w.heap.size w w1) : JoinOf w1 b1 b2 j := by
  obtain ⟨h1, h2, v, u1, ps, h3, h4, h5⟩ := h
  exact ⟨Blk_below h1 hb, Blk_below h2 hb, v, u1, ps, blk_below hb h3, Sl_below h4 hb, Ch_below h5 hb⟩
theorem jo_is {w : World} {b1 b2 a : Addr} {j : Nat} (h : JoinOf w b1 b2 j) (ha : Blk w a) :
    Calls Tryd.prog 16 #[Jo j, Sent a] w fun e w' => e = .returned (.bool (decide (b1 = a) || decide (b2 = a))) ∧ w' = w := by
  obtain ⟨h1, h2, v, u1, ps, h3, h4, h5⟩ := h
  exact is_any (is_join a j v u1 (Sent b2) w h3 h4 _ _ (is_loop a b1 ps u1 w h5 ha h1) (is_loop a b2 [] _ w (Ch_nil w b2) ha h2))
theorem joat_is {w : World} {b1 b2 a : Addr} {g j : Nat} {p : Int} (h : JoinOf w b1 b2 j) (hg : w.heap[g]? = some (.cells #[.int .i64 p, Jo j] 45 (0, 0))) (ha : Blk w a) :
    Calls Tryd.prog 16 #[AtPlace g, Sent a] w fun e w' => e = .returned (.bool (decide (b1 = a) || decide (b2 = a))) ∧ w' = w := by
  obtain ⟨h1, h2, v, u1, ps, h3, h4, h5⟩ := h
  exact is_any (is_join_at a g j p v u1 (Sent b2) w hg h3 h4 _ _ (is_loop a b1 ps u1 w h5 ha h1) (is_loop a b2 [] _ w (Ch_nil w b2) ha h2))
/-- n is the least number of the two. -/
structure Least (s : Nat → Addr) (b1 b2 : Addr) (n : Nat) : Prop where
  lt : n < 11
  no : ∀ k, k < n → b1 ≠ s (k + 1) ∧ b2 ≠ s (k + 1)
  hit : b1 = s (n + 1) ∨ b2 = s (n + 1)
theorem Least.p {s : Nat → Addr} {b1 b2 : Addr} {n : Nat} (h : Least s b1 b2 n) : (∀ k, k < n → (decide (b1 = s (k + 1)) || decide (b2 = s (k + 1))) = false) ∧ (decide (b1 = s (n + 1)) || decide (b2 = s (n + 1))) = true := by
  refine ⟨fun k hk => ?_, ?_⟩
  · have := h.no k hk
    simp [this.1, this.2]
  · rcases h.hit with h | h <;> simp [h]
theorem jo_code {s : Nat → Addr} {w : World} {b1 b2 : Addr} {j n : Nat} (hs : Sents w s) (h : JoinOf w b1 b2 j) (hl : Least s b1 b2 n) (c : Int) (hc : c = (n : Int) + 1) :
    Calls Tryd.prog 12 #[Jo j] w fun e w' => e = .returned (.int .i64 c) ∧ w' = w :=
  code_any s _ _ _ w hs (fun k hk => jo_is h (hs.blk k hk)) n hl.lt hl.p.1 hl.p.2 c hc
theorem joat_code {s : Nat → Addr} {w : World} {b1 b2 : Addr} {g j n : Nat} {p : Int} (hs : Sents w s) (h : JoinOf w b1 b2 j) (hg : w.heap[g]? = some (.cells #[.int .i64 p, Jo j] 45 (0, 0))) (hl : Least s b1 b2 n) (c : Int) (hc : c = (n : Int) + 1) :
    Calls Tryd.prog 12 #[AtPlace g] w fun e w' => e = .returned (.int .i64 c) ∧ w' = w :=
  code_any s _ _ _ w hs (fun k hk => joat_is h hg (hs.blk k hk)) n hl.lt hl.p.1 hl.p.2 c hc
theorem join_c {w : World} {b1 b2 : Addr} {r0 : Nat} {u1 : Value} {ps : List Int} (h1 : Blk w b1) (h2 : Blk w b2) (hc : Ch w b1 ps u1) (hr : w.heap[r0]? = some (.cells #[u1, Sent b2] 25 (0, 0))) :
    Calls Tryd.prog 23 #[.slice (some ⟨r0, 0, none⟩) 2 2] w fun e w' => ∃ j, e = .returned (Jo j) ∧ JoinOf w' b1 b2 j ∧ Below w.heap.size w w' := by
  obtain ⟨T, x, rfl⟩ := Ch_shape hc
  refine (join_2 r0 T _ x _ w hr).mono ?_
  rintro e w1 ⟨j, v, rfl, hj, hs, hb⟩
  exact ⟨j, rfl, ⟨Blk_below h1 hb, Blk_below h2 hb, v, _, ps, hj, hs, Ch_below hc hb⟩, hb⟩
set_option maxHeartbeats 2000000 in
set_option maxRecDepth 100000 in
theorem several_walk (s : Nat → Addr) (a0 a1 : Int) (A2 : Option Addr) (c2 : Nat) (l2 : List Int) (W : World) (hs : Sents W s) (wa0 : I64 a0) (wa1 : I64 a1) (hC2 : Kd.C (Kd.int .i64) W A2 l2.length l2) (hl2 : l2.length ≤ c2) :
    Calls Tryd.prog 8 #[.int .i64 a0, .int .i64 a1, .slice A2 l2.length c2] W fun e w' => e = .returned (.bool true) ∧ Below W.heap.size W w' := by
  have hlen := Kd.C_max hC2
  have HA := awake_c s W hs
  have HS := Aside0.mk hs
  clear hs
  have HC2 := Aside0.mk hC2
  clear hC2
  go_enter Tryd.func8, Tryd.ntmps8
  go_wp2_with fail
  refine HA.mono ?_
  rintro e w1 ⟨rfl, hb⟩
  have HB := Aside0.mk hb
  clear hb HA
  by_cases g1 : 20 < l2.length
  · have g1' : (20 : Int) < (l2.length : Int) := by omega
    go_wp2
    go_ret
    exact ⟨rfl, HB.out⟩
  · have g1' : (l2.length : Int) ≤ 20 := by omega
    obtain ⟨n, hkn, hn⟩ := u_rem a0 10
    obtain ⟨m, hkm, hm⟩ := u_rem a1 10
    have e11 : (((10 : Nat) : Int) + 1) = 11 := rfl
    rw [e11] at hkn hkm
    have up0 := u_pos a0
    have up1 := u_pos a1
    clear e11
    have hs1 := HS.out.below HB.out
    have hw := wrapped_yes s n (by omega) (1 + (n : Int)) (by omega) A2 c2 l2 w1 hs1 (Kd.C_below HC2.out HB.out)
    have HW := Aside0.mk hw
    clear hw
    clear hs1
    obtain ⟨k, hk, hk1, hk2⟩ : ∃ k, k ≤ 10 ∧ Least s (s (n + 1)) (s (m + 1)) k ∧ (if n ≤ m then k = n else k = m) := by
      have hd : ∀ i j, i < 11 → j < 11 → i < j → s (j + 1) ≠ s (i + 1) := fun i j hi hj hij e => by
        have := HS.out.inj j i hj hi e
        omega
      by_cases h : n ≤ m
      · exact ⟨n, by omega, ⟨by omega, fun k hk => ⟨hd k n (by omega) (by omega) hk, hd k m (by omega) (by omega) (by omega)⟩, .inl rfl⟩, by rw [if_pos h]⟩
      · exact ⟨m, by omega, ⟨by omega, fun k hk => ⟨hd k n (by omega) (by omega) (by omega), hd k m (by omega) (by omega) hk⟩, .inr rfl⟩, by rw [if_neg h]⟩
    have HK1 := Aside0.mk hk1
    clear hk1
    go_wp2_with fail
    refine HW.out.mono ?_
    rintro e w2 ⟨v, rfl, hc, hb⟩
    replace HB := Aside0.mk (below_step HB.out hb)
    obtain ⟨T, x, rfl⟩ := Ch_shape hc
    have HC := Aside0.mk hc
    clear hc hb HW hkn hkm up0 up1
    have hs2 := HS.out.below HB.out
    go_wp2_with fail
    refine (of_yes s m (by omega) (1 + (m : Int)) (by omega) w2 hs2).mono ?_
    rintro e w3 ⟨rfl, rfl⟩
    have hr0 := blk_new w3 (.cells #[.iface T x, Sent (s (m + 1))] 25)
    have hb0 := below_alloc (Below.refl w3.heap.size w3) (.cells #[.iface T x, Sent (s (m + 1))] 25)
    have hj := join_c (Blk_below (hs2.blk n (by omega)) hb0) (Blk_below (hs2.blk m (by omega)) hb0) (Ch_below HC.out hb0) hr0
    have HJ := Aside0.mk hj
    clear hj
    have HB0 := Aside0.mk hb0
    clear hb0
    clear hs2 hr0
    go_wp2_with fail
    refine HJ.out.mono ?_
    rintro e w4 ⟨j, rfl, hj, hb⟩
    have HJO := Aside0.mk hj
    replace HB := Aside0.mk (below_step HB.out (below_step HB0.out hb))
    clear hj hb HJ HB0 HC
    go_wp2_with fail
    refine (at_any 5 _ _ w4).mono ?_
    rintro e w5 ⟨g, rfl, hg, hb⟩
    replace HB := Aside0.mk (below_step HB.out hb)
    replace HJO := Aside0.mk (JoinOf_below HJO.out hb)
    have HG := Aside0.mk hg
    clear hg hb
    have hs5 := HS.out.below HB.out
    have hp := place_at s g 5 _ w5 hs5 HG.out
    have HP := Aside0.mk hp
    clear hp
    clear hs5
    go_wp2_with fail
    refine HP.out.mono ?_
    rintro e w6 ⟨rfl, hb⟩
    replace HB := Aside0.mk (below_step HB.out hb)
    replace HJO := Aside0.mk (JoinOf_below HJO.out hb)
    replace HG := Aside0.mk (blk_below hb HG.out)
    clear hb HP
    have hs6 := HS.out.below HB.out
    have hc1 := jo_code hs6 HJO.out HK1.out
    have hc2' := joat_code hs6 HJO.out HG.out HK1.out
    have hi1 := joat_is HJO.out HG.out (hs6.blk n (by omega))
    have hi2 := joat_is HJO.out HG.out (hs6.blk m (by omega))
    rw [show (decide (s (n + 1) = s (n + 1)) || decide (s (m + 1) = s (n + 1))) = true by simp] at hi1
    rw [show (decide (s (n + 1) = s (m + 1)) || decide (s (m + 1) = s (m + 1))) = true by simp] at hi2
    have ho1 := of_yes s n (by omega) (1 + (n : Int)) (by omega) w6 hs6
    have ho2 := of_yes s m (by omega) (1 + (m : Int)) (by omega) w6 hs6
    have HI1 := Aside0.mk hi1
    clear hi1
    have HI2 := Aside0.mk hi2
    clear hi2
    have HO1 := Aside0.mk ho1
    clear ho1
    have HO2 := Aside0.mk ho2
    clear ho2
    have HC1 := Aside0.mk hc1
    clear hc1
    have HC2' := Aside0.mk hc2'
    clear hc2'
    clear hs6
    by_cases h : n ≤ m
    · rw [if_pos h] at hk2
      have hle : (1 + (n : Int)) ≤ 1 + (m : Int) := by omega
      have h1 := HC1.out (1 + (n : Int)) (by omega)
      have h2 := HC2'.out (1 + (n : Int)) (by omega)
      have H1 := Aside0.mk h1
      clear h1
      have H2 := Aside0.mk h2
      clear h2
      go_wp2_with fail
      refine H1.out.mono ?_
      rintro e w7 ⟨rfl, rfl⟩
      go_wp2_with fail
      refine H2.out.mono ?_
      rintro e w7 ⟨rfl, rfl⟩
      clear H1 H2 HC1 HC2'
      go_wp2_with fail
      refine HO1.out.mono ?_
      rintro e w7 ⟨rfl, rfl⟩
      go_wp2_with fail
      refine HI1.out.mono ?_
      rintro e w7 ⟨rfl, rfl⟩
      go_wp2_with fail
      refine HO2.out.mono ?_
      rintro e w7 ⟨rfl, rfl⟩
      go_wp2_with fail
      refine HI2.out.mono ?_
      rintro e w7 ⟨rfl, rfl⟩
      clear HO1 HI1 HO2 HI2 HJO HG
      go_wp2_with fail
      refine (new_c _ w7).mono ?_
      rintro e w8 ⟨g2, rfl, hg1, hg2, hb⟩
      obtain ⟨b, hbq⟩ : ∃ b : Addr, b = ⟨g2, 0, none⟩ := ⟨_, rfl⟩
      have hblk : Blk w8 b := by rw [hbq]; exact ⟨_, _, hg2⟩
      have hno : ∀ k, k < 11 → b ≠ s (k + 1) := fun k hk e => by
        obtain ⟨c, t, hh⟩ := HS.out.blk k hk
        have h9 := blk_lt hh
        rw [← e, hbq] at h9
        have := HB.out.size
        simp at h9
        omega
      rw [← hbq]
      replace HB := Aside0.mk (below_step HB.out hb)
      clear hb hg1 hg2 hbq
      have hs8 := HS.out.below HB.out
      have ho3 := of_yes s m (by omega) (1 + (m : Int)) (by omega) w8 hs8
      have hl3 : Least s b (s (m + 1)) m := ⟨by omega, fun k hk => ⟨hno k (by omega), fun e => by have := HS.out.inj m k (by omega) (by omega) e; omega⟩, .inr rfl⟩
      have hb2 := hs8.blk m (by omega)
      have HO3 := Aside0.mk ho3
      clear ho3
      have HL3 := Aside0.mk hl3
      clear hl3
      have HBLK := Aside0.mk hblk
      clear hblk
      have HB2 := Aside0.mk hb2
      clear hb2
      clear hs8 hno
      go_wp2_with fail
      refine HO3.out.mono ?_
      rintro e w9 ⟨rfl, rfl⟩
      have hr0 := blk_new w9 (.cells #[Sent b, Sent (s (m + 1))] 25)
      have hb0 := below_alloc (Below.refl w9.heap.size w9) (.cells #[Sent b, Sent (s (m + 1))] 25)
      have hj := join_c (Blk_below HBLK.out hb0) (Blk_below HB2.out hb0) (Ch_nil _ b) hr0
      replace HB := Aside0.mk (below_step HB.out hb0)
      have HJ := Aside0.mk hj
      clear hj
      clear hr0 hb0 HO3
      go_wp2_with fail
      refine HJ.out.mono ?_
      rintro e w10 ⟨j2, rfl, hj, hb⟩
      replace HB := Aside0.mk (below_step HB.out hb)
      have hc3 := jo_code (HS.out.below HB.out) hj HL3.out (1 + (m : Int)) (by omega)
      have HC3 := Aside0.mk hc3
      clear hc3
      clear hj hb HJ
      go_wp2_with fail
      refine HC3.out.mono ?_
      rintro e w11 ⟨rfl, rfl⟩
      go_wp2
      go_ret
      exact ⟨rfl, HB.out⟩
    · rw [if_neg h] at hk2
      have hle : (1 + (m : Int)) < 1 + (n : Int) := by omega
      have hle2 : ¬ (1 + (n : Int)) ≤ 1 + (m : Int) := by omega
      have h1 := HC1.out (1 + (m : Int)) (by omega)
      have h2 := HC2'.out (1 + (m : Int)) (by omega)
      have H1 := Aside0.mk h1
      clear h1
      have H2 := Aside0.mk h2
      clear h2
      go_wp2_with fail
      refine H1.out.mono ?_
      rintro e w7 ⟨rfl, rfl⟩
      go_wp2_with fail
      refine H2.out.mono ?_
      rintro e w7 ⟨rfl, rfl⟩
      clear H1 H2 HC1 HC2'
      go_wp2_with fail
      refine HO1.out.mono ?_
      rintro e w7 ⟨rfl, rfl⟩
      go_wp2_with fail
      refine HI1.out.mono ?_
      rintro e w7 ⟨rfl, rfl⟩
      go_wp2_with fail
      refine HO2.out.mono ?_
      rintro e w7 ⟨rfl, rfl⟩
      go_wp2_with fail
      refine HI2.out.mono ?_
      rintro e w7 ⟨rfl, rfl⟩
      clear HO1 HI1 HO2 HI2 HJO HG
      go_wp2_with fail
      refine (new_c _ w7).mono ?_
      rintro e w8 ⟨g2, rfl, hg1, hg2, hb⟩
      obtain ⟨b, hbq⟩ : ∃ b : Addr, b = ⟨g2, 0, none⟩ := ⟨_, rfl⟩
      have hblk : Blk w8 b := by rw [hbq]; exact ⟨_, _, hg2⟩
      have hno : ∀ k, k < 11 → b ≠ s (k + 1) := fun k hk e => by
        obtain ⟨c, t, hh⟩ := HS.out.blk k hk
        have h9 := blk_lt hh
        rw [← e, hbq] at h9
        have := HB.out.size
        simp at h9
        omega
      rw [← hbq]
      replace HB := Aside0.mk (below_step HB.out hb)
      clear hb hg1 hg2 hbq
      have hs8 := HS.out.below HB.out
      have ho3 := of_yes s m (by omega) (1 + (m : Int)) (by omega) w8 hs8
      have hl3 : Least s b (s (m + 1)) m := ⟨by omega, fun k hk => ⟨hno k (by omega), fun e => by have := HS.out.inj m k (by omega) (by omega) e; omega⟩, .inr rfl⟩
      have hb2 := hs8.blk m (by omega)
      have HO3 := Aside0.mk ho3
      clear ho3
      have HL3 := Aside0.mk hl3
      clear hl3
      have HBLK := Aside0.mk hblk
      clear hblk
      have HB2 := Aside0.mk hb2
      clear hb2
      clear hs8 hno
      go_wp2_with fail
      refine HO3.out.mono ?_
      rintro e w9 ⟨rfl, rfl⟩
      have hr0 := blk_new w9 (.cells #[Sent b, Sent (s (m + 1))] 25)
      have hb0 := below_alloc (Below.refl w9.heap.size w9) (.cells #[Sent b, Sent (s (m + 1))] 25)
      have hj := join_c (Blk_below HBLK.out hb0) (Blk_below HB2.out hb0) (Ch_nil _ b) hr0
      replace HB := Aside0.mk (below_step HB.out hb0)
      have HJ := Aside0.mk hj
      clear hj
      clear hr0 hb0 HO3
      go_wp2_with fail
      refine HJ.out.mono ?_
      rintro e w10 ⟨j2, rfl, hj, hb⟩
      replace HB := Aside0.mk (below_step HB.out hb)
      have hc3 := jo_code (HS.out.below HB.out) hj HL3.out (1 + (m : Int)) (by omega)
      have HC3 := Aside0.mk hc3
      clear hc3
      clear hj hb HJ
      go_wp2_with fail
      refine HC3.out.mono ?_
      rintro e w11 ⟨rfl, rfl⟩
      go_wp2
      go_ret
      exact ⟨rfl, HB.out⟩
end Go.Proofs.YtlednfddidpcdaaDoor.Wo
