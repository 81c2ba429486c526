/- lots: LotsMore. -/
import Derived.Test.YtlcfkdglknkbdaaDoorLoP
namespace Go.Proofs.YtlcfkdglknkbdaaDoor.Lo
open Go.RowKit Go.Proofs.YtlcfkdglknkbdaaDoorW.PrintWords Go.Proofs.YtlcfkdglknkbdaaDoorW.PrintLast Go.Proofs.YtlcfkdglknkbdaaDoorW.PrintMore Go.Proofs.YtlcfkdglknkbdaaDoor.X
set_option linter.unusedVariables false
set_option linter.unusedSimpArgs false
attribute [local go_sem high] eqA37 eqA35 eqA24

theorem enc_s {u : Value} {x : S28} {w : World} (he : encB x = true) (hu : SV w x u) (aA : Addr) (hA : w.cell? gArg = some (Sent aA)) :
    Calls Tryd.prog 10 #[u] w fun e w' => e = .returned (.tuple #[.string (encS x), .nilIface]) ∧ Below w.heap.size w w' := by
  refine (enc_c hu aA hA).mono ?_
  rintro e w1 ⟨s, v, rfl, h, _, hb⟩
  obtain ⟨rfl, rfl⟩ := h he
  exact ⟨rfl, hb⟩
/-- Decode of a script's bytes with more behind them. -/
theorem decm_c (x : S28) (he : encB x = true) (more : ByteArray) (hm : more.size ≤ 4096) (l : List Int) (hl : l = (dec (encS x ++ more)).f2) (w : World) :
    Calls Tryd.prog 9 #[.string (encS x ++ more)] w fun e w' => ∃ B5 d5 B6 d6, e = .returned (.agg #[.int .i64 x.f0.f0, .int .i64 x.f0.f1, .int .i64 x.f0.f2, .int .i64 x.f0.f3, .int .i64 x.f0.f4, .slice B5 x.f1.length d5, .slice B6 l.length d6]) ∧ k37.C w' B5 x.f1.length x.f1 ∧ (Kd.int .i64).C w' B6 l.length l ∧ Below w.heap.size w w' := by
  have h5 := (good_conf (enc_parts he).1).2.1
  have h6 := (good_conf (enc_parts he).1).2.2.1
  obtain ⟨h0, h1, h2, h3⟩ := dec_more he more
  refine (dec_s _ (by rw [ByteArray.size_append, encS_size]; omega) w).mono ?_
  rintro e w1 ⟨v, rfl, hv, hb⟩
  obtain ⟨A5, c5, A6, c6, rfl, l5, C5, l6, C6⟩ := hv
  have e0 : (dec (encS x ++ more)).f0 = x.f0 := h0
  have e1 : (dec (encS x ++ more)).f1 = x.f1 := by show tasks _ (cntOf _) = _; rw [h1, h2]
  rw [e1] at C5
  rw [← hl] at C6
  exact ⟨A5, c5, A6, c6, by rw [e0, e1, hl], C5, C6, hb⟩
theorem more_picks (x : S28) (he : encB x = true) (more : ByteArray) (l : List Int) (hl : l = (dec (encS x ++ more)).f2) : l.length = min (x.f2.length + more.size) 4096 ∧ ∀ i, i < x.f2.length → l.getD i 0 = x.f2.getD i 0 := by
  obtain ⟨h0, h1, h2, h3⟩ := dec_more he more
  have h6 := (good_conf (enc_parts he).1).2.2.1
  have hn : l.length = min (x.f2.length + more.size) 4096 := by rw [hl, dec_n6, npick_more he]
  refine ⟨hn, fun i hi => ?_⟩
  rw [← h3 i hi, hl]
  show (picks _ (6 + 4 * cntOf _) (npick _)).getD i 0 = _
  rw [h1, npick_more he]
  unfold picks
  rw [List.getD_eq_getElem?_getD, List.getElem?_map, List.getElem?_range (by omega)]
  rfl
/-- What stays while two scripts are compared. -/
def VW (w wr : World) (xb yb : Nat) (x : S28) (l : List Int) (A5 : Option Addr) (c5 : Nat) (A6 : Option Addr) (c6 : Nat) (B5 : Option Addr) (d5 : Nat) (B6 : Option Addr) (d6 : Nat) : Prop :=
  wr.heap[xb]? = some (.cells (scells x A5 c5 A6 c6) 28 (0, 0)) ∧ wr.heap[yb]? = some (.cells #[.int .i64 x.f0.f0, .int .i64 x.f0.f1, .int .i64 x.f0.f2, .int .i64 x.f0.f3, .int .i64 x.f0.f4, .slice B5 x.f1.length d5, .slice B6 l.length d6] 28 (0, 0))
    ∧ k37.C wr A5 x.f1.length x.f1 ∧ (Kd.int .i64).C wr A6 x.f2.length x.f2 ∧ k37.C wr B5 x.f1.length x.f1 ∧ (Kd.int .i64).C wr B6 l.length l ∧ Below w.heap.size w wr
theorem VW_below {w wr w1 : World} {xb yb : Nat} {x : S28} {l : List Int} {A5 : Option Addr} {c5 : Nat} {A6 : Option Addr} {c6 : Nat} {B5 : Option Addr} {d5 : Nat} {B6 : Option Addr} {d6 : Nat} (h : VW w wr xb yb x l A5 c5 A6 c6 B5 d5 B6 d6) (hb : Below wr.heap.size wr w1) : VW w w1 xb yb x l A5 c5 A6 c6 B5 d5 B6 d6 := by
  obtain ⟨h1, h2, h3, h4, h5, h6, h7⟩ := h
  exact ⟨blk_below hb h1, blk_below hb h2, Kd.C_below h3 hb, Kd.C_below h4 hb, Kd.C_below h5 hb, Kd.C_below h6 hb, below_step h7 hb⟩
set_option maxHeartbeats 4000000 in
set_option maxRecDepth 100000 in
theorem more_walk (s more : ByteArray) (aA : Addr) (W : World) (hA : W.cell? gArg = some (Sent aA)) :
    Calls Tryd.prog 3 #[.string s, .string more] W fun e w' => e = .returned (.bool true) ∧ Below W.heap.size W w' := by
  have h1 := Tryd.underlying24
  have h2 := Tryd.underlying28
  have h3 := Tryd.underlying37
  have h4 := Tryd.underlying35
  obtain ⟨w, hw⟩ : ∃ w, w = W := ⟨_, rfl⟩
  rw [← hw] at hA ⊢
  clear hw
  have HA := Aside0.mk hA
  clear hA
  go_enter Tryd.func3, Tryd.ntmps3
  go_wp2_with fail
  refine (awake_c aA w HA.out).mono ?_
  rintro e w1 ⟨rfl, hb⟩
  have HB := Aside0.mk hb
  clear hb
  by_cases hs : s.size ≤ 4096
  · have z1 : ¬ (s.size : Int) > 4096 := by omega
    by_cases hm : more.size ≤ 4096
    · have z2 : ¬ (more.size : Int) > 4096 := by omega
      go_wp2_with fail
      refine (dec_s s (by omega) _).mono ?_
      rintro e w2 ⟨v, rfl, hv, hb⟩
      obtain ⟨x, hx⟩ : ∃ x, x = dec s := ⟨_, rfl⟩
      have he : encB x = true := by rw [hx]; exact enc_dec s
      have h5 := (good_conf (enc_parts he).1).2.1
      have h6 := (good_conf (enc_parts he).1).2.2.1
      rw [← hx] at hv
      have hv' := hv
      obtain ⟨A5, c5, A6, c6, rfl, l5, C5, l6, C6⟩ := hv
      have hb1 := below_alloc (Below.refl w2.heap.size w2) (.cells (scells x A5 c5 A6 c6) 28)
      have FX := Aside0.mk (blk_new w2 (.cells (scells x A5 c5 A6 c6) 28))
      replace HB := Aside0.mk (below_step (below_step HB.out hb) hb1)
      have FS := Aside0.mk (SV_below hv' hb1)
      have HE := Aside0.mk he
      clear hb hb1 hv' C5 C6 l5 l6 hx z1 z2 he hs
      go_wp2_with fail
      refine (enc_s HE.out FS.out aA (pw_cell_below HB.out HA.out)).mono ?_
      rintro e w3 ⟨rfl, hb⟩
      replace HB := Aside0.mk (below_step HB.out hb)
      replace FX := Aside0.mk (blk_below hb FX.out)
      replace FS := Aside0.mk (SV_below FS.out hb)
      obtain ⟨xb, hxb⟩ : ∃ z, z = w2.heap.size := ⟨_, rfl⟩
      rw [← hxb] at FX ⊢
      clear hb hxb
      have hadd : ∀ W : World, (Op.stringOp .add (encS x) more).run Tryd.prog W = .ok (.string (encS x ++ more)) W := fun W => run_string_add W _ _ (by rw [encS_size]; omega) (by omega)
      go_wp2_with fail
      obtain ⟨l, hl⟩ : ∃ l, l = (dec (encS x ++ more)).f2 := ⟨_, rfl⟩
      refine (decm_c x HE.out more hm l hl _).mono ?_
      rintro e w4 ⟨B5, d5, B6, d6, rfl, D5, D6, hb⟩
      have hb1 := below_alloc (Below.refl w4.heap.size w4) (.cells #[.int .i64 x.f0.f0, .int .i64 x.f0.f1, .int .i64 x.f0.f2, .int .i64 x.f0.f3, .int .i64 x.f0.f4, .slice B5 x.f1.length d5, .slice B6 l.length d6] 28)
      have hY := blk_new w4 (.cells #[.int .i64 x.f0.f0, .int .i64 x.f0.f1, .int .i64 x.f0.f2, .int .i64 x.f0.f3, .int .i64 x.f0.f4, .slice B5 x.f1.length d5, .slice B6 l.length d6] 28)
      replace FS := SV_below (SV_below FS.out hb) hb1
      obtain ⟨A5', c5', A6', c6', e, _, C5, _, C6⟩ := FS
      injection e with e
      have e5 : Value.slice A5 x.f1.length c5 = .slice A5' x.f1.length c5' := congrArg (fun a => a.getD 5 undef) e
      have e6 : Value.slice A6 x.f2.length c6 = .slice A6' x.f2.length c6' := congrArg (fun a => a.getD 6 undef) e
      injection e5 with e51 _ e53
      injection e6 with e61 _ e63
      subst e51 e53 e61 e63
      have hV : VW w (w4.alloc (.cells #[.int .i64 x.f0.f0, .int .i64 x.f0.f1, .int .i64 x.f0.f2, .int .i64 x.f0.f3, .int .i64 x.f0.f4, .slice B5 x.f1.length d5, .slice B6 l.length d6] 28)) xb w4.heap.size x l A5 c5 A6 c6 B5 d5 B6 d6 :=
        ⟨blk_below hb1 (blk_below hb FX.out), hY, C5, C6, Kd.C_below D5 hb1, Kd.C_below D6 hb1, below_step (below_step HB.out hb) hb1⟩
      obtain ⟨hll, hpk⟩ := more_picks x HE.out more l hl
      have x0 := (blk_cell hV.1 0).trans rfl
      have x1 := (blk_cell hV.1 1).trans rfl
      have x2 := (blk_cell hV.1 2).trans rfl
      have x3 := (blk_cell hV.1 3).trans rfl
      have x4 := (blk_cell hV.1 4).trans rfl
      have x5 := (blk_cell hV.1 5).trans rfl
      have x6 := (blk_cell hV.1 6).trans rfl
      have HV := Aside0.mk hV
      have HPK := Aside0.mk hpk
      have hmn : (if (4096 : Int) < (x.f2.length : Int) + (more.size : Int) then (4096 : Int) else (x.f2.length : Int) + (more.size : Int)) = (l.length : Int) := by rw [hll]; split <;> omega
      have hw64 : wrap64 ((x.f2.length : Int) + (more.size : Int)) = (x.f2.length : Int) + (more.size : Int) := by unfold wrap64; omega
      have HXL : Aside0 (x.f2.length ≤ l.length) := Aside0.mk (by omega)
      have HLL : Aside0 (l.length ≤ 4096) := Aside0.mk (by omega)
      have HL5 := Aside0.mk h5
      have HL6 := Aside0.mk h6
      clear e hb hb1 hY C5 C6 D5 D6 HB FX hl hll hV hpk hadd hm h5 h6
      go_wp2
      obtain ⟨w5, hw5⟩ : ∃ z, z = (w4.alloc (.cells #[.int .i64 x.f0.f0, .int .i64 x.f0.f1, .int .i64 x.f0.f2, .int .i64 x.f0.f3, .int .i64 x.f0.f4, .slice B5 x.f1.length d5, .slice B6 l.length d6] 28)) := ⟨_, rfl⟩
      obtain ⟨yb, hyb⟩ : ∃ z, z = w4.heap.size := ⟨_, rfl⟩
      rw [← hw5, ← hyb] at HV
      rw [← hw5, ← hyb]
      clear x0 x1 x2 x3 x4 x5 x6 hw5 hyb hmn hw64
      go_loopw [9] (fun i wr => ∃ k : Nat, k ≤ x.f1.length ∧ i = .int .i64 k ∧ VW w wr xb yb x l A5 c5 A6 c6 B5 d5 B6 d6) (fun i _ => x.f1.length - (intOf i).toNat)
      case atStart => exact ⟨0, Nat.zero_le _, rfl, HV.out⟩
      case round =>
        obtain ⟨k, hkl, rfl, hT⟩ := hrel
        clear HV
        have x5 := (blk_cell hT.1 5).trans rfl
        have y5 := (blk_cell hT.2.1 5).trans rfl
        have P5 := Aside0.mk hT.2.2.1
        have Q5 := Aside0.mk hT.2.2.2.2.1
        have HB := Aside0.mk hT.2.2.2.2.2.2
        have HT := Aside0.mk hT
        clear hT
        by_cases hlt : k < x.f1.length
        · have hkk : (0 : Int) ≤ (k : Int) := by omega
          have hkn : (k : Int) < (x.f1.length : Int) := by omega
          have hkb : k < 5000 := by have := HL5.out; omega
          obtain ⟨adA, eA, q0, q1, q2, q3, q4⟩ := at_T37 P5.out (k : Int) (by omega) (by omega)
          simp only [Int.toNat_natCast] at q0 q1 q2 q3 q4
          cases eA
          obtain ⟨adB, eA, r0, r1, r2, r3, r4⟩ := at_T37 Q5.out (k : Int) (by omega) (by omega)
          simp only [Int.toNat_natCast] at r0 r1 r2 r3 r4
          cases eA
          obtain ⟨y, hy⟩ : ∃ y, y = rd_T37 x.f1 (k : Int) := ⟨_, rfl⟩
          rw [← hy] at q0 q1 q2 q3 q4 r0 r1 r2 r3 r4
          clear hy
          go_wp2
          go_quiet (fail)
          go_wp2
          go_roundw
          case rel => exact ⟨k + 1, by omega, by go_num, VW_below HT.out (pw_below_drewN (Below.refl _ _) _)⟩
          case measure => simp [intOf]; omega
        · obtain rfl : k = x.f1.length := by omega
          go_wp2
          clear x5 y5
          go_loopw [10] (fun i wr => ∃ k : Nat, k ≤ x.f2.length ∧ i = .int .i64 k ∧ VW w wr xb yb x l A5 c5 A6 c6 B5 d5 B6 d6) (fun i _ => x.f2.length - (intOf i).toNat)
          case atStart => exact ⟨0, Nat.zero_le _, rfl, HT.out⟩
          case round =>
            obtain ⟨k, hkl, rfl, hT⟩ := hrel
            clear HT HB P5 Q5
            have x6 := (blk_cell hT.1 6).trans rfl
            have y6 := (blk_cell hT.2.1 6).trans rfl
            have P6 := Aside0.mk hT.2.2.2.1
            have Q6 := Aside0.mk hT.2.2.2.2.2.1
            have HB := Aside0.mk hT.2.2.2.2.2.2
            have HT := Aside0.mk hT
            clear hT
            by_cases hlt : k < x.f2.length
            · have hlt2 : k < l.length := by have := HXL.out; omega
              have hkk : (0 : Int) ≤ (k : Int) := by omega
              have hkn : (k : Int) < (x.f2.length : Int) := by omega
              have hkb : k < 5000 := by have := HL6.out; omega
              have hkm : (k : Int) < (l.length : Int) := by omega
              obtain ⟨ad, eA, q0⟩ := Kd.at_int P6.out (k : Int) (by omega) (by omega)
              obtain ⟨ad, eB, r0⟩ := Kd.at_int Q6.out (k : Int) (by omega) (by omega)
              simp only [Int.toNat_natCast] at q0 r0
              cases eA
              cases eB
              rw [rd_getD] at q0 r0
              rw [HPK.out k hlt] at r0
              obtain ⟨a, ha⟩ : ∃ z, z = x.f2.getD k 0 := ⟨_, rfl⟩
              rw [← ha] at q0 r0
              clear ha
              go_wp2
              go_quiet (fail)
              go_wp2
              go_roundw
              case rel => exact ⟨k + 1, by omega, by go_num, VW_below HT.out (pw_below_drewN (Below.refl _ _) _)⟩
              case measure => simp [intOf]; omega
            · go_wp2
              go_ret
              exact ⟨rfl, HB.out⟩
    · have z2 : (more.size : Int) > 4096 := by omega
      go_wp2
      go_ret
      exact ⟨rfl, HB.out⟩
  · have z1 : (s.size : Int) > 4096 := by omega
    go_wp2
    go_ret
    exact ⟨rfl, HB.out⟩
end Go.Proofs.YtlcfkdglknkbdaaDoor.Lo
