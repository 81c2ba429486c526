/- parish's Good, lots' Same and Good: what they answer. (Partly printed by gen_f.py.) -/
import Derived.Test.YtlcfkdglknkbdaaDoorLoE
namespace Go.Proofs.YtlcfkdglknkbdaaDoor.Lo
open Go.RowKit Go.Proofs.YtlcfkdglknkbdaaDoorW.PrintWords Go.Proofs.YtlcfkdglknkbdaaDoorW.PrintLast Go.Proofs.YtlcfkdglknkbdaaDoorW.PrintMore Go.Proofs.YtlcfkdglknkbdaaDoor.X
set_option linter.unusedVariables false
set_option linter.unusedSimpArgs false
attribute [local go_sem high] eqA37 eqA35 eqA24

/-- Whether a layout can be. -/
def okConf (c : S24) : Bool := decide ((1 ≤ c.f0 ∧ c.f0 ≤ 5) ∧ (1 ≤ c.f1 ∧ c.f1 ≤ 5) ∧ (1 ≤ c.f2 ∧ c.f2 ≤ 6) ∧ (0 ≤ c.f3 ∧ c.f3 ≤ 1024) ∧ (1 ≤ c.f4 ∧ c.f4 ≤ 64))
set_option maxRecDepth 100000 in
set_option maxHeartbeats 2000000 in
theorem pgood_c (st en th sl no : Int) (w : World) : Calls Tryd.prog 13 #[.agg #[.int .i64 st, .int .i64 en, .int .i64 th, .int .i64 sl, .int .i64 no]] w fun e w' => e = .returned (.bool (okConf ⟨st, en, th, sl, no⟩)) ∧ Below w.heap.size w w' := by
  have hu := Tryd.underlying24
  have HX := Aside0.mk (blk_new w (.cells #[.int .i64 st, .int .i64 en, .int .i64 th, .int .i64 sl, .int .i64 no] 24))
  have HB0 := Aside0.mk (below_alloc (Below.refl w.heap.size w) (.cells #[.int .i64 st, .int .i64 en, .int .i64 th, .int .i64 sl, .int .i64 no] 24))
  go_enter Tryd.func13, Tryd.ntmps13
  by_cases h0 : 1 ≤ st ∧ st ≤ 5
  · go_wp2_with fail
    refine (within_c _ _ _ _).mono ?_
    rintro e w1 ⟨rfl, hb⟩
    rw [decide_eq_true h0]
    replace HX := Aside0.mk (blk_below hb HX.out)
    replace HB0 := Aside0.mk (below_step HB0.out hb)
    have c0 := (blk_cell HX.out 0).trans rfl
    have c1 := (blk_cell HX.out 1).trans rfl
    have c2 := (blk_cell HX.out 2).trans rfl
    have c3 := (blk_cell HX.out 3).trans rfl
    have c4 := (blk_cell HX.out 4).trans rfl
    clear hb
    by_cases h1 : 1 ≤ en ∧ en ≤ 5
    · go_wp2_with fail
      refine (within_c _ _ _ _).mono ?_
      rintro e w1 ⟨rfl, hb⟩
      rw [decide_eq_true h1]
      replace HX := Aside0.mk (blk_below hb HX.out)
      replace HB0 := Aside0.mk (below_step HB0.out hb)
      have c0 := (blk_cell HX.out 0).trans rfl
      have c1 := (blk_cell HX.out 1).trans rfl
      have c2 := (blk_cell HX.out 2).trans rfl
      have c3 := (blk_cell HX.out 3).trans rfl
      have c4 := (blk_cell HX.out 4).trans rfl
      clear hb
      by_cases h2 : 1 ≤ th ∧ th ≤ 6
      · go_wp2_with fail
        refine (within_c _ _ _ _).mono ?_
        rintro e w1 ⟨rfl, hb⟩
        rw [decide_eq_true h2]
        replace HX := Aside0.mk (blk_below hb HX.out)
        replace HB0 := Aside0.mk (below_step HB0.out hb)
        have c0 := (blk_cell HX.out 0).trans rfl
        have c1 := (blk_cell HX.out 1).trans rfl
        have c2 := (blk_cell HX.out 2).trans rfl
        have c3 := (blk_cell HX.out 3).trans rfl
        have c4 := (blk_cell HX.out 4).trans rfl
        clear hb
        by_cases h3 : 0 ≤ sl ∧ sl ≤ 1024
        · go_wp2_with fail
          refine (within_c _ _ _ _).mono ?_
          rintro e w1 ⟨rfl, hb⟩
          rw [decide_eq_true h3]
          replace HX := Aside0.mk (blk_below hb HX.out)
          replace HB0 := Aside0.mk (below_step HB0.out hb)
          have c0 := (blk_cell HX.out 0).trans rfl
          have c1 := (blk_cell HX.out 1).trans rfl
          have c2 := (blk_cell HX.out 2).trans rfl
          have c3 := (blk_cell HX.out 3).trans rfl
          have c4 := (blk_cell HX.out 4).trans rfl
          clear hb
          by_cases h4 : 1 ≤ no ∧ no ≤ 64
          · go_wp2_with fail
            refine (within_c _ _ _ _).mono ?_
            rintro e w1 ⟨rfl, hb⟩
            rw [decide_eq_true h4]
            replace HX := Aside0.mk (blk_below hb HX.out)
            replace HB0 := Aside0.mk (below_step HB0.out hb)
            have c0 := (blk_cell HX.out 0).trans rfl
            have c1 := (blk_cell HX.out 1).trans rfl
            have c2 := (blk_cell HX.out 2).trans rfl
            have c3 := (blk_cell HX.out 3).trans rfl
            have c4 := (blk_cell HX.out 4).trans rfl
            clear hb
            go_wp2
            go_ret
            exact ⟨by rw [show okConf _ = true from decide_eq_true (by simp only []; omega)]; rfl, HB0.out⟩
          · go_wp2_with fail
            refine (within_c _ _ _ _).mono ?_
            rintro e w1 ⟨rfl, hb⟩
            rw [decide_eq_false h4]
            replace HX := Aside0.mk (blk_below hb HX.out)
            replace HB0 := Aside0.mk (below_step HB0.out hb)
            have c0 := (blk_cell HX.out 0).trans rfl
            have c1 := (blk_cell HX.out 1).trans rfl
            have c2 := (blk_cell HX.out 2).trans rfl
            have c3 := (blk_cell HX.out 3).trans rfl
            have c4 := (blk_cell HX.out 4).trans rfl
            clear hb
            go_wp2
            go_ret
            exact ⟨by rw [show okConf _ = false from decide_eq_false (by simp only []; omega)]; rfl, HB0.out⟩
        · go_wp2_with fail
          refine (within_c _ _ _ _).mono ?_
          rintro e w1 ⟨rfl, hb⟩
          rw [decide_eq_false h3]
          replace HX := Aside0.mk (blk_below hb HX.out)
          replace HB0 := Aside0.mk (below_step HB0.out hb)
          have c0 := (blk_cell HX.out 0).trans rfl
          have c1 := (blk_cell HX.out 1).trans rfl
          have c2 := (blk_cell HX.out 2).trans rfl
          have c3 := (blk_cell HX.out 3).trans rfl
          have c4 := (blk_cell HX.out 4).trans rfl
          clear hb
          go_wp2
          go_ret
          exact ⟨by rw [show okConf _ = false from decide_eq_false (by simp only []; omega)]; rfl, HB0.out⟩
      · go_wp2_with fail
        refine (within_c _ _ _ _).mono ?_
        rintro e w1 ⟨rfl, hb⟩
        rw [decide_eq_false h2]
        replace HX := Aside0.mk (blk_below hb HX.out)
        replace HB0 := Aside0.mk (below_step HB0.out hb)
        have c0 := (blk_cell HX.out 0).trans rfl
        have c1 := (blk_cell HX.out 1).trans rfl
        have c2 := (blk_cell HX.out 2).trans rfl
        have c3 := (blk_cell HX.out 3).trans rfl
        have c4 := (blk_cell HX.out 4).trans rfl
        clear hb
        go_wp2
        go_ret
        exact ⟨by rw [show okConf _ = false from decide_eq_false (by simp only []; omega)]; rfl, HB0.out⟩
    · go_wp2_with fail
      refine (within_c _ _ _ _).mono ?_
      rintro e w1 ⟨rfl, hb⟩
      rw [decide_eq_false h1]
      replace HX := Aside0.mk (blk_below hb HX.out)
      replace HB0 := Aside0.mk (below_step HB0.out hb)
      have c0 := (blk_cell HX.out 0).trans rfl
      have c1 := (blk_cell HX.out 1).trans rfl
      have c2 := (blk_cell HX.out 2).trans rfl
      have c3 := (blk_cell HX.out 3).trans rfl
      have c4 := (blk_cell HX.out 4).trans rfl
      clear hb
      go_wp2
      go_ret
      exact ⟨by rw [show okConf _ = false from decide_eq_false (by simp only []; omega)]; rfl, HB0.out⟩
  · go_wp2_with fail
    refine (within_c _ _ _ _).mono ?_
    rintro e w1 ⟨rfl, hb⟩
    rw [decide_eq_false h0]
    replace HX := Aside0.mk (blk_below hb HX.out)
    replace HB0 := Aside0.mk (below_step HB0.out hb)
    have c0 := (blk_cell HX.out 0).trans rfl
    have c1 := (blk_cell HX.out 1).trans rfl
    have c2 := (blk_cell HX.out 2).trans rfl
    have c3 := (blk_cell HX.out 3).trans rfl
    have c4 := (blk_cell HX.out 4).trans rfl
    clear hb
    go_wp2
    go_ret
    exact ⟨by rw [show okConf _ = false from decide_eq_false (by simp only []; omega)]; rfl, HB0.out⟩
set_option maxHeartbeats 1000000 in
theorem equalT_c (A : Option Addr) (c : Nat) (a : List S37) (B : Option Addr) (d : Nat) (b : List S37) (w : World) (ca : Kd.C k37 w A a.length a) (cb : Kd.C k37 w B b.length b) :
    Calls Tryd.prog 29 #[.slice A a.length c, .slice B b.length d] w fun e w' => e = .returned (.bool (decide (a = b))) ∧ Below w.heap.size w w' := by
  have hla := Kd.C_max ca
  have hlb := Kd.C_max cb
  have h1 := Tryd.underlying37
  have h2 := Tryd.underlying35
  have CA := Aside0.mk ca
  clear ca
  have CB := Aside0.mk cb
  clear cb
  by_cases hlen : a.length = b.length
  · have hl1 : (a.length != b.length) = false := by simp [hlen]
    have hl2 : ((a.length : Int) != (b.length : Int)) = false := by simp [hlen]
    have HLEN := Aside0.mk hlen
    clear hlen
    go_enter Tryd.func29, Tryd.ntmps29
    go_wp2
    go_loopw [13] (fun i wr => ∃ k : Nat, k ≤ a.length ∧ i = .int .i64 k ∧ Below w.heap.size w wr ∧ a.take k = b.take k) (fun i _ => a.length - (intOf i).toNat)
    case atStart => exact ⟨0, Nat.zero_le _, rfl, Below.refl _ _, rfl⟩
    case round =>
      obtain ⟨k, hkl, rfl, hb, he⟩ := hrel
      have HB := Aside0.mk hb
      clear hb
      have HE := Aside0.mk he
      clear he
      by_cases hlt : k < a.length
      · have hlt2 : k < b.length := by rw [← HLEN.out]; exact hlt
        have hkk : (0 : Int) ≤ (k : Int) := by omega
        have hkn : (k : Int) < (a.length : Int) := by omega
        have hkm : (k : Int) < (b.length : Int) := by omega
        have hta := take_snoc a z37 k hlt
        have htb := take_snoc b z37 k hlt2
        have hra : rd_T37 a (k : Int) = a.getD k z37 := by simp [rd_T37]
        have hrb : rd_T37 b (k : Int) = b.getD k z37 := by simp [rd_T37]
        rw [← hra] at hta
        rw [← hrb] at htb
        have HTA := Aside0.mk hta
        clear hta
        have HTB := Aside0.mk htb
        clear htb
        have HRA := Aside0.mk hra
        clear hra
        have HRB := Aside0.mk hrb
        clear hrb
        obtain ⟨ad, eA, q0, q1, q2, q3, q4⟩ := at_T37 CA.out (k : Int) (by omega) (by omega)
        replace q0 := pw_cell_below HB.out q0
        replace q1 := pw_cell_below HB.out q1
        replace q2 := pw_cell_below HB.out q2
        replace q3 := pw_cell_below HB.out q3
        replace q4 := pw_cell_below HB.out q4
        simp only [Int.toNat_natCast] at q0 q1 q2 q3 q4
        cases eA
        obtain ⟨ad, eA, r0, r1, r2, r3, r4⟩ := at_T37 CB.out (k : Int) (by omega) (by omega)
        replace r0 := pw_cell_below HB.out r0
        replace r1 := pw_cell_below HB.out r1
        replace r2 := pw_cell_below HB.out r2
        replace r3 := pw_cell_below HB.out r3
        replace r4 := pw_cell_below HB.out r4
        simp only [Int.toNat_natCast] at r0 r1 r2 r3 r4
        cases eA
        cases hq : eqB37 (rd_T37 a (k : Int)) (rd_T37 b (k : Int))
        · have hn : decide (a = b) = false := by
            simp only [decide_eq_false_iff_not]
            rintro rfl
            rw [eqB37_self] at hq
            cases hq
          have HN := Aside0.mk hn
          clear hn
          simp only [eqB37, eqB35] at hq
          go_wp2
          go_quiet (fail)
          go_wp2
          go_ret
          exact ⟨by rw [HN.out]; rfl, pw_below_drewN HB.out _⟩
        · have he2 : a.take (k + 1) = b.take (k + 1) := by rw [HTA.out, HTB.out, HE.out, (eqB37_iff _ _).1 hq]
          have HE2 := Aside0.mk he2
          clear he2
          simp only [eqB37, eqB35] at hq
          go_wp2
          go_quiet (fail)
          go_wp2
          go_roundw
          case rel => exact ⟨k + 1, by omega, by go_num, pw_below_drewN HB.out _, HE2.out⟩
          case measure => simp [intOf]; omega
      · go_wp2
        go_ret
        have hk' : k = a.length := by omega
        have h1 := HE.out
        rw [hk', List.take_length, HLEN.out, List.take_length] at h1
        exact ⟨by rw [h1]; simp, HB.out⟩
  · have hl1 : (a.length != b.length) = true := by simp [hlen]
    have hl2 : ((a.length : Int) != (b.length : Int)) = true := by simp; omega
    have hf : decide (a = b) = false := by simp; rintro rfl; exact hlen rfl
    rw [hf]
    clear hlen hf
    go_enter Tryd.func29, Tryd.ntmps29
    go_wp2
    go_ret
    exact ⟨rfl, Below.refl _ _⟩
theorem rd_getD (l : List Int) (k : Nat) : rd l (k : Int) = l.getD k 0 := by simp [rd]
set_option maxHeartbeats 1000000 in
theorem equalI_c (A : Option Addr) (c : Nat) (a : List Int) (B : Option Addr) (d : Nat) (b : List Int) (w : World) (ca : Kd.C (Kd.int .i64) w A a.length a) (cb : Kd.C (Kd.int .i64) w B b.length b) :
    Calls Tryd.prog 30 #[.slice A a.length c, .slice B b.length d] w fun e w' => e = .returned (.bool (decide (a = b))) ∧ Below w.heap.size w w' := by
  have hla := Kd.C_max ca
  have hlb := Kd.C_max cb
  have CA := Aside0.mk ca
  clear ca
  have CB := Aside0.mk cb
  clear cb
  by_cases hlen : a.length = b.length
  · have hl1 : (a.length != b.length) = false := by simp [hlen]
    have hl2 : ((a.length : Int) != (b.length : Int)) = false := by simp [hlen]
    have HLEN := Aside0.mk hlen
    clear hlen
    go_enter Tryd.func30, Tryd.ntmps30
    go_wp2
    go_loopw [13] (fun i wr => ∃ k : Nat, k ≤ a.length ∧ i = .int .i64 k ∧ Below w.heap.size w wr ∧ a.take k = b.take k) (fun i _ => a.length - (intOf i).toNat)
    case atStart => exact ⟨0, Nat.zero_le _, rfl, Below.refl _ _, rfl⟩
    case round =>
      obtain ⟨k, hkl, rfl, hb, he⟩ := hrel
      have HB := Aside0.mk hb
      clear hb
      have HE := Aside0.mk he
      clear he
      by_cases hlt : k < a.length
      · have hlt2 : k < b.length := by rw [← HLEN.out]; exact hlt
        have hkk : (0 : Int) ≤ (k : Int) := by omega
        have hkn : (k : Int) < (a.length : Int) := by omega
        have hkm : (k : Int) < (b.length : Int) := by omega
        have hta := take_snoc a 0 k hlt
        have htb := take_snoc b 0 k hlt2
        rw [← rd_getD] at hta htb
        have HTA := Aside0.mk hta
        clear hta
        have HTB := Aside0.mk htb
        clear htb
        obtain ⟨ad, eA, q0⟩ := Kd.at_int CA.out (k : Int) (by omega) (by omega)
        obtain ⟨ad, eB, r0⟩ := Kd.at_int CB.out (k : Int) (by omega) (by omega)
        replace q0 := pw_cell_below HB.out q0
        replace r0 := pw_cell_below HB.out r0
        simp only [Int.toNat_natCast] at q0 r0
        cases eA
        cases eB
        obtain ⟨x, hx⟩ : ∃ x, x = rd a (k : Int) := ⟨_, rfl⟩
        obtain ⟨y, hy⟩ : ∃ y, y = rd b (k : Int) := ⟨_, rfl⟩
        rw [← hx] at q0
        rw [← hy] at r0
        have HX := Aside0.mk hx
        clear hx
        have HY := Aside0.mk hy
        clear hy
        by_cases hq : x = y
        · have he2 : a.take (k + 1) = b.take (k + 1) := by rw [HTA.out, HTB.out, HE.out, ← HX.out, ← HY.out, hq]
          have HE2 := Aside0.mk he2
          clear he2
          have hqq : (x != y) = false := by simp [hq]
          have HQ := Aside0.mk hq
          clear hq
          go_wp2
          go_quiet (fail)
          go_wp2
          go_roundw
          case rel => exact ⟨k + 1, by omega, by go_num, pw_below_drewN HB.out _, HE2.out⟩
          case measure => simp [intOf]; omega
        · have hn : decide (a = b) = false := by
            simp only [decide_eq_false_iff_not]
            rintro rfl
            exact hq (by rw [HX.out, HY.out])
          have HN := Aside0.mk hn
          clear hn
          have hqq : (x != y) = true := by simp [hq]
          go_wp2
          go_quiet (fail)
          go_wp2
          go_ret
          exact ⟨by rw [HN.out]; rfl, pw_below_drewN HB.out _⟩
      · go_wp2
        go_ret
        have hk' : k = a.length := by omega
        have h1 := HE.out
        rw [hk', List.take_length, HLEN.out, List.take_length] at h1
        exact ⟨by rw [h1]; simp, HB.out⟩
  · have hl1 : (a.length != b.length) = true := by simp [hlen]
    have hl2 : ((a.length : Int) != (b.length : Int)) = true := by simp; omega
    have hf : decide (a = b) = false := by simp; rintro rfl; exact hlen rfl
    rw [hf]
    clear hlen hf
    go_enter Tryd.func30, Tryd.ntmps30
    go_wp2
    go_ret
    exact ⟨rfl, Below.refl _ _⟩
/-! ### closures -/
theorem thr_c (n : Int) (x : Nat) (th : Int) (w : World) (hx : w.cell? ⟨x, 2, none⟩ = some (.int .i64 th)) :
    Calls Tryd.prog 26 #[.int .i64 n, .pointer (some ⟨x, 0, none⟩)] w fun e w' => e = .returned (.bool (decide (0 ≤ n ∧ n < th))) ∧ w' = w := by
  go_enter Tryd.func26, Tryd.ntmps26
  go_wp2
  all_goals
    go_ret
    refine ⟨ret_bool ?_, rfl⟩
    simp
    try omega
theorem bad_c (n : Int) (x f : Nat) (th : Int) (w : World) (hf : w.cell? ⟨f, 0, none⟩ = some (.func (.func 26) #[] #[.pointer (some ⟨x, 0, none⟩)])) (hx : w.cell? ⟨x, 2, none⟩ = some (.int .i64 th)) :
    Calls Tryd.prog 28 #[.int .i64 n, .pointer (some ⟨f, 0, none⟩)] w fun e w' => e = .returned (.bool (!decide (0 ≤ n ∧ n < th))) ∧ w' = w := by
  go_enter Tryd.func28, Tryd.ntmps28
  go_wp2_with fail
  refine (thr_c n x th _ hx).mono ?_
  rintro e w1 ⟨rfl, rfl⟩
  go_wp2
  go_ret
  exact ⟨ret_bool (by simp), rfl⟩
set_option maxHeartbeats 1000000 in
theorem idx_c (A : Option Addr) (c : Nat) (l : List Int) (x f : Nat) (th : Int) (w : World) (hl : Kd.C (Kd.int .i64) w A l.length l) (hf : w.cell? ⟨f, 0, none⟩ = some (.func (.func 26) #[] #[.pointer (some ⟨x, 0, none⟩)])) (hx : w.cell? ⟨x, 2, none⟩ = some (.int .i64 th)) :
    Calls Tryd.prog 43 #[.slice A l.length c, .func (.func 28) #[] #[.pointer (some ⟨f, 0, none⟩)]] w fun e w' => ∃ i : Int, e = .returned (.int .i64 i) ∧ decide (0 ≤ i) = !(l.all fun n => decide (0 ≤ n ∧ n < th)) ∧ w' = w := by
  have hlen := Kd.C_max hl
  have HL := Aside0.mk hl
  clear hl
  go_enter Tryd.func43, Tryd.ntmps43
  go_wp2
  go_loopw [8] (fun i wr => ∃ k : Nat, k ≤ l.length ∧ i = .int .i64 k ∧ wr = w ∧ (l.take k).all (fun n => decide (0 ≤ n ∧ n < th)) = true) (fun i _ => l.length - (intOf i).toNat)
  case atStart => exact ⟨0, Nat.zero_le _, rfl, rfl, rfl⟩
  case round =>
    obtain ⟨k, hkl, rfl, rfl, hs⟩ := hrel
    have HS := Aside0.mk hs
    clear hs
    by_cases hlt : k < l.length
    · obtain ⟨ad, eA, q0⟩ := Kd.at_int HL.out (k : Int) (by omega) (by omega)
      simp only [Int.toNat_natCast] at q0
      cases eA
      obtain ⟨y, hy⟩ : ∃ y, y = rd l (k : Int) := ⟨_, rfl⟩
      rw [← hy] at q0
      have hg : l.getD k 0 = y := by rw [hy, rd_getD]
      have h3 := take_snoc l 0 k hlt
      rw [hg] at h3
      have h4 : decide (0 ≤ y ∧ y < th) = false → (l.all fun n => decide (0 ≤ n ∧ n < th)) = false := fun h => by
        rw [List.all_eq_false]
        exact ⟨y, by rw [← hg]; simp [List.getD, hlt], by simpa using h⟩
      have H3 := Aside0.mk h3
      clear h3
      have HY := Aside0.mk hy
      clear hy
      have H4 := Aside0.mk h4
      clear h4
      have HG := Aside0.mk hg
      clear hg
      go_wp2_with fail
      refine (bad_c y x f th _ hf hx).mono ?_
      rintro e w1 ⟨rfl, rfl⟩
      cases t : decide (0 ≤ y ∧ y < th)
      · have H5 := H4.out t
        have H4 := Aside0.mk H5
        clear H5 t
        go_wp2
        go_ret
        exact ⟨(k : Int), rfl, by rw [H4.out]; simp, rfl⟩
      · have HT := Aside0.mk t
        clear t
        go_wp2
        go_roundw
        case rel => exact ⟨k + 1, by omega, by go_num, by first | trivial | rfl, by rw [H3.out, List.all_append, HS.out]; simpa using HT.out⟩
        case measure => simp [intOf]; omega
    · go_wp2
      go_ret
      have hk' : k = l.length := by omega
      subst hk'
      have hs := HS.out
      rw [List.take_length] at hs
      exact ⟨-1, rfl, by rw [hs]; rfl, rfl⟩
theorem cont_c (A : Option Addr) (c : Nat) (l : List Int) (x f : Nat) (th : Int) (w : World) (hl : Kd.C (Kd.int .i64) w A l.length l) (hf : w.cell? ⟨f, 0, none⟩ = some (.func (.func 26) #[] #[.pointer (some ⟨x, 0, none⟩)])) (hx : w.cell? ⟨x, 2, none⟩ = some (.int .i64 th)) :
    Calls Tryd.prog 27 #[.slice A l.length c, .func (.func 28) #[] #[.pointer (some ⟨f, 0, none⟩)]] w fun e w' => e = .returned (.bool (!(l.all fun n => decide (0 ≤ n ∧ n < th)))) ∧ w' = w := by
  have H := idx_c A c l x f th w hl hf hx
  go_enter Tryd.func27, Tryd.ntmps27
  go_wp2_with fail
  refine H.mono ?_
  rintro e w1 ⟨i, rfl, hi, rfl⟩
  have HI := Aside0.mk hi
  clear hi
  by_cases h : 0 ≤ i
  · go_wp2
    go_ret
    exact ⟨ret_bool (by rw [← HI.out, decide_eq_true h]), rfl⟩
  · go_wp2
    go_ret
    exact ⟨ret_bool (by rw [← HI.out]), rfl⟩
end Go.Proofs.YtlcfkdglknkbdaaDoor.Lo
