/- lots: the document's Same and Ints. -/
import Derived.Test.YtlcfkdglknkbdaaDoorLoJ
namespace Go.Proofs.YtlcfkdglknkbdaaDoor.Lo
open Go.RowKit Go.Proofs.YtlcfkdglknkbdaaDoorW.PrintWords Go.Proofs.YtlcfkdglknkbdaaDoorW.PrintLast Go.Proofs.YtlcfkdglknkbdaaDoorW.PrintMore Go.Proofs.YtlcfkdglknkbdaaDoor.X
set_option linter.unusedVariables false
set_option linter.unusedSimpArgs false
attribute [local go_sem high] eqA37 eqA35 eqA24

set_option maxHeartbeats 1000000 in
theorem ints_c (A : Option Addr) (c : Nat) (a : List Int) (B : Option Addr) (d : Nat) (b : List Int) (w : World) (ca : Kd.C (Kd.int .i64) w A a.length a) (cb : Kd.C (Kd.int .i64) w B b.length b) :
    Calls Tryd.prog 19 #[.slice A a.length c, .slice B b.length d] w fun e w' => e = .returned (.bool (decide (a = b))) ∧ Below w.heap.size w w' := by
  have hla := Kd.C_max ca
  have hlb := Kd.C_max cb
  have CA := Aside0.mk ca
  clear ca
  have CB := Aside0.mk cb
  clear cb
  by_cases hlen : a.length = b.length
  · have hl1 : (a.length != b.length) = false := by simp [hlen]
    have hl2 : ((a.length : Int) != (b.length : Int)) = false := by simp [hlen]
    have HLEN := Aside0.mk hlen
    clear hlen
    go_enter Tryd.func19, Tryd.ntmps19
    go_wp2
    go_loopw [5] (fun i wr => ∃ k : Nat, k ≤ a.length ∧ i = .int .i64 k ∧ Below w.heap.size w wr ∧ a.take k = b.take k) (fun i _ => a.length - (intOf i).toNat)
    case atStart => exact ⟨0, Nat.zero_le _, rfl, Below.refl _ _, rfl⟩
    case round =>
      obtain ⟨k, hkl, rfl, hb, he⟩ := hrel
      have HB := Aside0.mk hb
      clear hb
      have HE := Aside0.mk he
      clear he
      by_cases hlt : k < a.length
      · have hlt2 : k < b.length := by rw [← HLEN.out]; exact hlt
        have hkk : (0 : Int) ≤ (k : Int) := by omega
        have hkn : (k : Int) < (a.length : Int) := by omega
        have hkm : (k : Int) < (b.length : Int) := by omega
        have hta := take_snoc a 0 k hlt
        have htb := take_snoc b 0 k hlt2
        rw [← rd_getD] at hta htb
        have HTA := Aside0.mk hta
        clear hta
        have HTB := Aside0.mk htb
        clear htb
        obtain ⟨ad, eA, q0⟩ := Kd.at_int CA.out (k : Int) (by omega) (by omega)
        obtain ⟨ad, eB, r0⟩ := Kd.at_int CB.out (k : Int) (by omega) (by omega)
        replace q0 := pw_cell_below HB.out q0
        replace r0 := pw_cell_below HB.out r0
        simp only [Int.toNat_natCast] at q0 r0
        cases eA
        cases eB
        obtain ⟨x, hx⟩ : ∃ x, x = rd a (k : Int) := ⟨_, rfl⟩
        obtain ⟨y, hy⟩ : ∃ y, y = rd b (k : Int) := ⟨_, rfl⟩
        rw [← hx] at q0
        rw [← hy] at r0
        have HX := Aside0.mk hx
        clear hx
        have HY := Aside0.mk hy
        clear hy
        by_cases hq : x = y
        · have he2 : a.take (k + 1) = b.take (k + 1) := by rw [HTA.out, HTB.out, HE.out, ← HX.out, ← HY.out, hq]
          have HE2 := Aside0.mk he2
          clear he2
          have hqq : (x != y) = false := by simp [hq]
          have HQ := Aside0.mk hq
          clear hq
          go_wp2
          go_quiet (fail)
          go_wp2
          go_roundw
          case rel => exact ⟨k + 1, by omega, by go_num, pw_below_drewN HB.out _, HE2.out⟩
          case measure => simp [intOf]; omega
        · have hn : decide (a = b) = false := by
            simp only [decide_eq_false_iff_not]
            rintro rfl
            exact hq (by rw [HX.out, HY.out])
          have HN := Aside0.mk hn
          clear hn
          have hqq : (x != y) = true := by simp [hq]
          go_wp2
          go_quiet (fail)
          go_wp2
          go_ret
          exact ⟨by rw [HN.out]; rfl, pw_below_drewN HB.out _⟩
      · go_wp2
        go_ret
        have hk' : k = a.length := by omega
        have h1 := HE.out
        rw [hk', List.take_length, HLEN.out, List.take_length] at h1
        exact ⟨by rw [h1]; simp, HB.out⟩
  · have hl1 : (a.length != b.length) = true := by simp [hlen]
    have hl2 : ((a.length : Int) != (b.length : Int)) = true := by simp; omega
    have hf : decide (a = b) = false := by simp; rintro rfl; exact hlen rfl
    rw [hf]
    clear hlen hf
    go_enter Tryd.func19, Tryd.ntmps19
    go_wp2
    go_ret
    exact ⟨rfl, Below.refl _ _⟩
/-- What stays while two scripts are compared. -/
def TW (w wr : World) (x y : S28) (A5 : Option Addr) (c5 : Nat) (A6 : Option Addr) (c6 : Nat) (B5 : Option Addr) (d5 : Nat) (B6 : Option Addr) (d6 : Nat) : Prop :=
  wr.heap[w.heap.size]? = some (.cells (scells x A5 c5 A6 c6) 28 (0, 0)) ∧ wr.heap[w.heap.size + 1]? = some (.cells (scells y B5 d5 B6 d6) 28 (0, 0)) ∧ Below w.heap.size w wr
theorem TW_below {w wr w1 : World} {x y : S28} {A5 : Option Addr} {c5 : Nat} {A6 : Option Addr} {c6 : Nat} {B5 : Option Addr} {d5 : Nat} {B6 : Option Addr} {d6 : Nat} (h : TW w wr x y A5 c5 A6 c6 B5 d5 B6 d6) (hb : Below wr.heap.size wr w1) : TW w w1 x y A5 c5 A6 c6 B5 d5 B6 d6 := by
  obtain ⟨h1, h2, h6⟩ := h
  exact ⟨blk_below hb h1, blk_below hb h2, below_step h6 hb⟩
theorem same_no {x y : S28} (h : x ≠ y) : sameB x y = false := by
  cases hb : sameB x y
  · rfl
  · exact absurd ((sameB_iff x y).1 hb) h
set_option maxHeartbeats 4000000 in
set_option maxRecDepth 100000 in
theorem rsame_c {u v : Value} {x y : S28} {w : World} (hu : SV w x u) (hv : SV w y v) :
    Calls Tryd.prog 18 #[u, v] w fun e w' => e = .returned (.bool (sameB x y)) ∧ Below w.heap.size w w' := by
  obtain ⟨A5, c5, A6, c6, rfl, l5, p5, l6, p6⟩ := hu
  obtain ⟨B5, d5, B6, d6, rfl, m5, q5, m6, q6⟩ := hv
  have h1 := Tryd.underlying24
  have h2 := Tryd.underlying28
  have h3 := Tryd.underlying37
  have h4 := Tryd.underlying35
  have n1 := Kd.C_max p5
  have n2 := Kd.C_max p6
  have n3 := Kd.C_max q5
  have n4 := Kd.C_max q6
  have hY := blk_new (w.alloc (.cells (scells x A5 c5 A6 c6) 28)) (.cells (scells y B5 d5 B6 d6) 28)
  have hsz : (w.alloc (.cells (scells x A5 c5 A6 c6) 28)).heap.size = w.heap.size + 1 := by unfold World.alloc; exact Array.size_push _
  rw [hsz] at hY
  have hT : TW w ((w.alloc (.cells (scells x A5 c5 A6 c6) 28)).alloc (.cells (scells y B5 d5 B6 d6) 28)) x y A5 c5 A6 c6 B5 d5 B6 d6 :=
    ⟨blk_below (below_alloc (Below.refl _ _) _) (blk_new _ _), hY, below_alloc (below_alloc (Below.refl _ _) _) _⟩
  have HT := Aside0.mk hT
  clear hsz hY hT l5 l6 
  have P5 := Aside0.mk p5
  clear p5
  have P6 := Aside0.mk p6
  clear p6
  have Q5 := Aside0.mk q5
  clear q5
  have Q6 := Aside0.mk q6
  clear q6
  cases hq : eqB24 x.f0 y.f0
  · have hn : sameB x y = false := by unfold sameB; rw [hq]; rfl
    rw [hn]
    clear hn
    simp only [eqB24] at hq
    go_enter Tryd.func18, Tryd.ntmps18
    go_wp2
    go_ret
    exact ⟨rfl, HT.out.2.2⟩
  · have hc0 : x.f0 = y.f0 := (eqB24_iff _ _).1 hq
    have HC0 := Aside0.mk hc0
    clear hc0
    simp only [eqB24] at hq
    by_cases hl5 : x.f1.length = y.f1.length
    · have i5 : ((x.f1.length : Int) != (y.f1.length : Int)) = false := by simp [hl5]
      have i5' : (x.f1.length != y.f1.length) = false := by simp [hl5]
      have HL5 := Aside0.mk hl5
      clear hl5
      by_cases hl6 : x.f2.length = y.f2.length
      · have i6 : ((x.f2.length : Int) != (y.f2.length : Int)) = false := by simp [hl6]
        have i6' : (x.f2.length != y.f2.length) = false := by simp [hl6]
        have HL6 := Aside0.mk hl6
        clear hl6
        go_enter Tryd.func18, Tryd.ntmps18
        go_wp2
        clear hq i5 i5' i6 i6'
        go_loopw [5] (fun i wr => ∃ k : Nat, k ≤ x.f1.length ∧ i = .int .i64 k ∧ TW w wr x y A5 c5 A6 c6 B5 d5 B6 d6 ∧ x.f1.take k = y.f1.take k) (fun i _ => x.f1.length - (intOf i).toNat)
        case atStart => exact ⟨0, Nat.zero_le _, rfl, HT.out, rfl⟩
        case round =>
          obtain ⟨k, hkl, rfl, hT, he⟩ := hrel
          clear HT
          have x5 := (blk_cell hT.1 5).trans rfl
          have y5 := (blk_cell hT.2.1 5).trans rfl
          have HB := Aside0.mk hT.2.2
          have HT := Aside0.mk hT
          clear hT
          have HE := Aside0.mk he
          clear he
          by_cases hlt : k < x.f1.length
          · have hlt2 : k < y.f1.length := by rw [← HL5.out]; exact hlt
            have hkk : (0 : Int) ≤ (k : Int) := by omega
            have hkn : (k : Int) < (x.f1.length : Int) := by omega
            have hkm : (k : Int) < (y.f1.length : Int) := by omega
            have hta := take_snoc x.f1 z37 k hlt
            have htb := take_snoc y.f1 z37 k hlt2
            have hra : rd_T37 x.f1 (k : Int) = x.f1.getD k z37 := by simp [rd_T37]
            have hrb : rd_T37 y.f1 (k : Int) = y.f1.getD k z37 := by simp [rd_T37]
            rw [← hra] at hta
            rw [← hrb] at htb
            have HTA := Aside0.mk hta
            clear hta
            have HTB := Aside0.mk htb
            clear htb
            have HRA := Aside0.mk hra
            clear hra
            have HRB := Aside0.mk hrb
            clear hrb
            obtain ⟨adA, eA, q0, q1, q2, q3, q4⟩ := at_T37 P5.out (k : Int) (by omega) (by omega)
            replace q0 := pw_cell_below HB.out q0
            replace q1 := pw_cell_below HB.out q1
            replace q2 := pw_cell_below HB.out q2
            replace q3 := pw_cell_below HB.out q3
            replace q4 := pw_cell_below HB.out q4
            simp only [Int.toNat_natCast] at q0 q1 q2 q3 q4
            cases eA
            obtain ⟨adB, eA, r0, r1, r2, r3, r4⟩ := at_T37 Q5.out (k : Int) (by omega) (by omega)
            replace r0 := pw_cell_below HB.out r0
            replace r1 := pw_cell_below HB.out r1
            replace r2 := pw_cell_below HB.out r2
            replace r3 := pw_cell_below HB.out r3
            replace r4 := pw_cell_below HB.out r4
            simp only [Int.toNat_natCast] at r0 r1 r2 r3 r4
            cases eA
            cases hq : eqB37 (rd_T37 x.f1 (k : Int)) (rd_T37 y.f1 (k : Int))
            · have hn : sameB x y = false := same_no (by
                rintro rfl
                rw [eqB37_self] at hq
                cases hq)
              have HN := Aside0.mk hn
              clear hn
              simp only [eqB37, eqB35] at hq
              go_wp2
              go_quiet (fail)
              go_wp2
              go_ret
              exact ⟨by rw [HN.out]; rfl, pw_below_drewN HB.out _⟩
            · have he2 : x.f1.take (k + 1) = y.f1.take (k + 1) := by rw [HTA.out, HTB.out, HE.out, (eqB37_iff _ _).1 hq]
              have HE2 := Aside0.mk he2
              clear he2
              simp only [eqB37, eqB35] at hq
              go_wp2
              go_quiet (fail)
              go_wp2
              go_roundw
              case rel => exact ⟨k + 1, by omega, by go_num, TW_below HT.out (pw_below_drewN (Below.refl _ _) _), HE2.out⟩
              case measure => simp [intOf]; omega
          · obtain rfl : k = x.f1.length := by omega
            have h1 := HE.out
            rw [List.take_length, HL5.out, List.take_length] at h1
            have HF1 := Aside0.mk h1
            clear h1 HE
            go_wp2
            clear x5 y5
            go_loopw [6] (fun i wr => ∃ k : Nat, k ≤ x.f2.length ∧ i = .int .i64 k ∧ TW w wr x y A5 c5 A6 c6 B5 d5 B6 d6 ∧ x.f2.take k = y.f2.take k) (fun i _ => x.f2.length - (intOf i).toNat)
            case atStart => exact ⟨0, Nat.zero_le _, rfl, HT.out, rfl⟩
            case round =>
              obtain ⟨k, hkl, rfl, hT, he⟩ := hrel
              clear HT HB
              have x6 := (blk_cell hT.1 6).trans rfl
              have y6 := (blk_cell hT.2.1 6).trans rfl
              have HB := Aside0.mk hT.2.2
              have HT := Aside0.mk hT
              clear hT
              have HE := Aside0.mk he
              clear he
              by_cases hlt : k < x.f2.length
              · have hlt2 : k < y.f2.length := by rw [← HL6.out]; exact hlt
                have hkk : (0 : Int) ≤ (k : Int) := by omega
                have hkn : (k : Int) < (x.f2.length : Int) := by omega
                have hkm : (k : Int) < (y.f2.length : Int) := by omega
                have hta := take_snoc x.f2 0 k hlt
                have htb := take_snoc y.f2 0 k hlt2
                rw [← rd_getD] at hta htb
                have HTA := Aside0.mk hta
                clear hta
                have HTB := Aside0.mk htb
                clear htb
                obtain ⟨ad, eA, q0⟩ := Kd.at_int P6.out (k : Int) (by omega) (by omega)
                obtain ⟨ad, eB, r0⟩ := Kd.at_int Q6.out (k : Int) (by omega) (by omega)
                replace q0 := pw_cell_below HB.out q0
                replace r0 := pw_cell_below HB.out r0
                simp only [Int.toNat_natCast] at q0 r0
                cases eA
                cases eB
                obtain ⟨a, ha⟩ : ∃ z, z = rd x.f2 (k : Int) := ⟨_, rfl⟩
                obtain ⟨b, hb⟩ : ∃ z, z = rd y.f2 (k : Int) := ⟨_, rfl⟩
                rw [← ha] at q0
                rw [← hb] at r0
                have HAA := Aside0.mk ha
                have HBB := Aside0.mk hb
                clear ha hb
                by_cases hq : a = b
                · have he2 : x.f2.take (k + 1) = y.f2.take (k + 1) := by rw [HTA.out, HTB.out, HE.out, ← HAA.out, ← HBB.out, hq]
                  have HE2 := Aside0.mk he2
                  clear he2
                  have hqq : (a != b) = false := by simp [hq]
                  have HQ := Aside0.mk hq
                  clear hq
                  go_wp2
                  go_quiet (fail)
                  go_wp2
                  go_roundw
                  case rel => exact ⟨k + 1, by omega, by go_num, TW_below HT.out (pw_below_drewN (Below.refl _ _) _), HE2.out⟩
                  case measure => simp [intOf]; omega
                · have hn : sameB x y = false := same_no (by
                    rintro rfl
                    exact hq (by rw [HAA.out, HBB.out]))
                  have HN := Aside0.mk hn
                  clear hn
                  have hqq : (a != b) = true := by simp [hq]
                  go_wp2
                  go_quiet (fail)
                  go_wp2
                  go_ret
                  exact ⟨by rw [HN.out]; rfl, pw_below_drewN HB.out _⟩
              · go_wp2
                go_ret
                have hk' : k = x.f2.length := by omega
                have h1 := HE.out
                rw [hk', List.take_length, HL6.out, List.take_length] at h1
                exact ⟨by rw [show sameB x y = true by unfold sameB; rw [HC0.out, HF1.out, h1, (eqB24_iff _ _).2 rfl]; simp]; rfl, HB.out⟩
      · have hn : sameB x y = false := same_no (by rintro rfl; exact hl6 rfl)
        rw [hn]
        have i6 : ((x.f2.length : Int) != (y.f2.length : Int)) = true := by simp; omega
        have i6' : (x.f2.length != y.f2.length) = true := by simp; omega
        clear hn hl6
        go_enter Tryd.func18, Tryd.ntmps18
        go_wp2
        go_ret
        exact ⟨rfl, HT.out.2.2⟩
    · have hn : sameB x y = false := same_no (by rintro rfl; exact hl5 rfl)
      rw [hn]
      have i5 : ((x.f1.length : Int) != (y.f1.length : Int)) = true := by simp; omega
      have i5' : (x.f1.length != y.f1.length) = true := by simp; omega
      clear hn hl5
      go_enter Tryd.func18, Tryd.ntmps18
      go_wp2
      go_ret
      exact ⟨rfl, HT.out.2.2⟩
end Go.Proofs.YtlcfkdglknkbdaaDoor.Lo
