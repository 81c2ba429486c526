/- Small functions over lists of notes: count, in, Same, great, note, freed. -/
import Derived.Test.YtcnhjbpgjemnhaaSvA
import Derived.Deep.RegionHeld3
import Derived.Deep.DrawnRows
namespace Go.Proofs.Ytcnhjbpgjemnhaa.Sv
open Go.RowKit Go.Proofs.YtcnhjbpgjemnhaaW.PrintWords Go.Proofs.YtcnhjbpgjemnhaaW.PrintLast Go.Proofs.YtcnhjbpgjemnhaaW.PrintMore Go.Proofs.Ytcnhjbpgjemnhaa.X
set_option linter.unusedVariables false
set_option linter.unusedSimpArgs false
attribute [local go_sem high] eqA39

def cnt (l : List S39) (x : S39) : Nat := (l.filter fun y => eqB39 y x).length

theorem cnt_snoc (l : List S39) (x : S39) (k : Nat) (h : k < l.length) : cnt (l.take (k + 1)) x = cnt (l.take k) x + if eqB39 (rd_T39 l (k : Int)) x then 1 else 0 := by
  have hr : rd_T39 l (k : Int) = l.getD k z39 := by simp [rd_T39]
  rw [cnt, cnt, filter_snoc l (fun y => eqB39 y x) z39 k h, ← hr]
  cases eqB39 (rd_T39 l (k : Int)) x <;> simp
set_option maxHeartbeats 1000000 in
theorem count_c (A : Option Addr) (c : Nat) (l : List S39) (x : S39) (w : World) (hl : Kd.C k39 w A l.length l) (hc : l.length ≤ c) :
    Calls Try.prog 14 #[.slice A l.length c, v39 x] w fun e w' => e = .returned (.int .i64 (cnt l x)) ∧ Below w.heap.size w w' := by
  unfold v39
  have hlen := Kd.C_max hl
  have hu39 := Try.underlying39
  have hu37 := Try.underlying37
  have HL := Aside0.mk hl
  clear hl
  go_enter Try.func14, Try.ntmps14
  go_wp2
  go_loopw [5, 6] (fun n i wr => ∃ k : Nat, k ≤ l.length ∧ i = .int .i64 k ∧ n = .int .i64 (cnt (l.take k) x) ∧ Below w.heap.size w wr ∧ wr.heap[w.heap.size]? = some (o39 x)) (fun _ i _ => l.length - (intOf i).toNat)
  case atStart => exact ⟨0, Nat.zero_le _, rfl, rfl, below_alloc (Below.refl _ _) _, blk_new _ _⟩
  case round =>
    obtain ⟨k, hkl, rfl, rfl, hb, hx⟩ := hrel
    by_cases hlt : k < l.length
    · have HBb := Aside0.mk hb
      obtain ⟨ad, eA, q0, q1, q2, q3, q4, q5, q6⟩ := at_T39 HL.out (k : Int) (by omega) (by omega)
      replace q0 := pw_cell_below HBb.out q0
      replace q1 := pw_cell_below HBb.out q1
      replace q2 := pw_cell_below HBb.out q2
      replace q3 := pw_cell_below HBb.out q3
      replace q4 := pw_cell_below HBb.out q4
      replace q5 := pw_cell_below HBb.out q5
      replace q6 := pw_cell_below HBb.out q6
      simp only [Int.toNat_natCast] at q0 q1 q2 q3 q4 q5 q6
      cases eA
      have hs := cnt_snoc l x k hlt
      have hkk : (0 : Int) ≤ (k : Int) := by omega
      have hkn : (k : Int) < (l.length : Int) := by omega
      obtain ⟨x0, x1, x2, x3, x4, x5, x6⟩ := cells39 hx
      have hle : cnt (l.take k) x ≤ k := Nat.le_trans (List.length_filter_le _ _) (List.length_take_le _ _)
      have HX := Aside0.mk hx
      clear hx
      have HB := Aside0.mk hb
      clear hb
      cases hq : eqB39 (rd_T39 l (k : Int)) x
      all_goals
        rw [hq] at hs
        simp only [eqB39, eqB37] at hq
        have HS := Aside0.mk hs
        clear hs
        go_wp2
        go_quiet (fail)
        go_wp2
        go_roundw
        case rel => exact ⟨k + 1, by omega, by go_num, by rw [HS.out]; simp, pw_below_drewN HB.out _, HX.out⟩
        case measure => simp [intOf]; omega
    · go_wp2
      go_ret
      have hk' : k = l.length := by omega
      subst hk'
      rw [List.take_length]
      exact ⟨rfl, hb⟩

/-! ### Same -/
set_option maxHeartbeats 1000000 in
theorem same_c (A : Option Addr) (c : Nat) (a : List S39) (B : Option Addr) (d : Nat) (b : List S39) (w : World) (ca : Kd.C k39 w A a.length a) (cb : Kd.C k39 w B b.length b) :
    Calls Try.prog 16 #[.slice A a.length c, .slice B b.length d] w fun e w' => e = .returned (.bool (decide (a = b))) ∧ Below w.heap.size w w' := by
  have hla := Kd.C_max ca
  have hlb := Kd.C_max cb
  have hu39 := Try.underlying39
  have hu37 := Try.underlying37
  have CA := Aside0.mk ca
  clear ca
  have CB := Aside0.mk cb
  clear cb
  by_cases hlen : a.length = b.length
  · have hl1 : (a.length != b.length) = false := by simp [hlen]
    have hl2 : ((a.length : Int) != (b.length : Int)) = false := by simp [hlen]
    have HLEN := Aside0.mk hlen
    clear hlen
    go_enter Try.func16, Try.ntmps16
    go_wp2
    go_loopw [5] (fun i wr => ∃ k : Nat, k ≤ a.length ∧ i = .int .i64 k ∧ Below w.heap.size w wr ∧ a.take k = b.take k) (fun i _ => a.length - (intOf i).toNat)
    case atStart => exact ⟨0, Nat.zero_le _, rfl, Below.refl _ _, rfl⟩
    case round =>
      obtain ⟨k, hkl, rfl, hb, he⟩ := hrel
      have HB := Aside0.mk hb
      clear hb
      have HE := Aside0.mk he
      clear he
      by_cases hlt : k < a.length
      · have hlt2 : k < b.length := by rw [← HLEN.out]; exact hlt
        have hkk : (0 : Int) ≤ (k : Int) := by omega
        have hkn : (k : Int) < (a.length : Int) := by omega
        have hkm : (k : Int) < (b.length : Int) := by omega
        have hta := take_snoc a z39 k hlt
        have htb := take_snoc b z39 k hlt2
        have hra : rd_T39 a (k : Int) = a.getD k z39 := by simp [rd_T39]
        have hrb : rd_T39 b (k : Int) = b.getD k z39 := by simp [rd_T39]
        rw [← hra] at hta
        rw [← hrb] at htb
        have HTA := Aside0.mk hta
        clear hta
        have HTB := Aside0.mk htb
        clear htb
        have HRA := Aside0.mk hra
        clear hra
        have HRB := Aside0.mk hrb
        clear hrb
        obtain ⟨ad, eA, q0, q1, q2, q3, q4, q5, q6⟩ := at_T39 CA.out (k : Int) (by omega) (by omega)
        replace q0 := pw_cell_below HB.out q0
        replace q1 := pw_cell_below HB.out q1
        replace q2 := pw_cell_below HB.out q2
        replace q3 := pw_cell_below HB.out q3
        replace q4 := pw_cell_below HB.out q4
        replace q5 := pw_cell_below HB.out q5
        replace q6 := pw_cell_below HB.out q6
        simp only [Int.toNat_natCast] at q0 q1 q2 q3 q4 q5 q6
        cases eA
        obtain ⟨ad, eA, r0, r1, r2, r3, r4, r5, r6⟩ := at_T39 CB.out (k : Int) (by omega) (by omega)
        replace r0 := pw_cell_below HB.out r0
        replace r1 := pw_cell_below HB.out r1
        replace r2 := pw_cell_below HB.out r2
        replace r3 := pw_cell_below HB.out r3
        replace r4 := pw_cell_below HB.out r4
        replace r5 := pw_cell_below HB.out r5
        replace r6 := pw_cell_below HB.out r6
        simp only [Int.toNat_natCast] at r0 r1 r2 r3 r4 r5 r6
        cases eA
        cases hq : eqB39 (rd_T39 a (k : Int)) (rd_T39 b (k : Int))
        · have hn : decide (a = b) = false := by
            simp only [decide_eq_false_iff_not]
            rintro rfl
            rw [eqB39_self] at hq
            cases hq
          have HN := Aside0.mk hn
          clear hn
          rw [eqB39_dec] at hq
          have hq2 := hq
          rw [← eqB39_dec] at hq
          simp only [eqB39, eqB37] at hq
          clear hq2
          go_wp2
          go_quiet (fail)
          go_wp2
          go_ret
          exact ⟨by rw [HN.out]; rfl, pw_below_drewN HB.out _⟩
        · have he2 : a.take (k + 1) = b.take (k + 1) := by rw [HTA.out, HTB.out, HE.out, (eqB39_iff _ _).1 hq]
          have HE2 := Aside0.mk he2
          clear he2
          simp only [eqB39, eqB37] at hq
          go_wp2
          go_quiet (fail)
          go_wp2
          go_roundw
          case rel => exact ⟨k + 1, by omega, by go_num, pw_below_drewN HB.out _, HE2.out⟩
          case measure => simp [intOf]; omega
      · go_wp2
        go_ret
        have hk' : k = a.length := by omega
        have h1 := HE.out
        rw [hk', List.take_length, HLEN.out, List.take_length] at h1
        exact ⟨by rw [h1]; simp, HB.out⟩
  · have hl1 : (a.length != b.length) = true := by simp [hlen]
    have hl2 : ((a.length : Int) != (b.length : Int)) = true := by simp; omega
    have hf : decide (a = b) = false := by simp; rintro rfl; exact hlen rfl
    rw [hf]
    clear hlen hf
    go_enter Try.func16, Try.ntmps16
    go_wp2
    go_ret
    exact ⟨rfl, Below.refl _ _⟩

/-! ### in -/
def inB (a b : List S39) : Bool := a.all fun x => !decide (cnt b x < cnt a x)
theorem all_snoc {α : Type} (l : List α) (p : α → Bool) (d : α) (k : Nat) (h : k < l.length) : (l.take (k + 1)).all p = ((l.take k).all p && p (l.getD k d)) := by
  rw [List.take_succ_eq_append_getElem h, List.all_append]
  simp [List.getD, h]
theorem all_at {α : Type} (l : List α) (p : α → Bool) (d : α) (k : Nat) (h : k < l.length) (hp : p (l.getD k d) = false) : l.all p = false := by
  rw [List.all_eq_false]
  refine ⟨l[k], List.getElem_mem h, ?_⟩
  simpa [List.getD, h] using hp
attribute [local go_sem ↓] Go.wp_at_zero Go.wp_at_succ
set_option maxHeartbeats 2000000 in
theorem in_c (A : Option Addr) (c : Nat) (a : List S39) (B : Option Addr) (d : Nat) (b : List S39) (w : World) (ca : Kd.C k39 w A a.length a) (cb : Kd.C k39 w B b.length b) (hc : a.length ≤ c) (hd : b.length ≤ d) :
    Calls Try.prog 15 #[.slice A a.length c, .slice B b.length d] w fun e w' => e = .returned (.bool (inB a b)) ∧ Below w.heap.size w w' := by
  have hla := Kd.C_max ca
  have hlb := Kd.C_max cb
  have hu39 := Try.underlying39
  have hu37 := Try.underlying37
  have CA := Aside0.mk ca
  clear ca
  have CB := Aside0.mk cb
  clear cb
  go_enter Try.func15, Try.ntmps15
  go_wp2
  go_loopw [5] (fun i wr => ∃ k : Nat, k ≤ a.length ∧ i = .int .i64 k ∧ Below w.heap.size w wr ∧ (a.take k).all (fun x => !decide (cnt b x < cnt a x)) = true) (fun i _ => a.length - (intOf i).toNat)
  case atStart => exact ⟨0, Nat.zero_le _, rfl, Below.refl _ _, rfl⟩
  case round =>
    obtain ⟨k, hkl, rfl, hb, he⟩ := hrel
    have HE := Aside0.mk he
    clear he
    by_cases hlt : k < a.length
    · have hkk : (0 : Int) ≤ (k : Int) := by omega
      have hkn : (k : Int) < (a.length : Int) := by omega
      have h1 := all_snoc a (fun x => !decide (cnt b x < cnt a x)) z39 k hlt
      have h2 := all_at a (fun x => !decide (cnt b x < cnt a x)) z39 k hlt
      have hra : rd_T39 a (k : Int) = a.getD k z39 := by simp [rd_T39]
      rw [← hra] at h1 h2
      have H1 := Aside0.mk h1
      clear h1
      have H2 := Aside0.mk h2
      clear h2
      have HRA := Aside0.mk hra
      clear hra
      obtain ⟨ad, eA, q0, q1, q2, q3, q4, q5, q6⟩ := at_T39 CA.out (k : Int) (by omega) (by omega)
      simp only [Int.toNat_natCast] at q0 q1 q2 q3 q4 q5 q6
      cases eA
      have hS : ∀ w', Below w.heap.size w w' → (Below w.heap.size w w' ∧ w'.cell? (ad.add (k * 7)) = some (.int .i64 (rd_T39 a (k : Int)).f0.f0) ∧ w'.cell? ⟨(ad.add (k * 7)).block, (ad.add (k * 7)).off + 1, none⟩ = some (.int .i64 (rd_T39 a (k : Int)).f0.f1) ∧ w'.cell? ⟨(ad.add (k * 7)).block, (ad.add (k * 7)).off + 2, none⟩ = some (.int .i64 (rd_T39 a (k : Int)).f0.f2) ∧ w'.cell? ⟨(ad.add (k * 7)).block, (ad.add (k * 7)).off + 3, none⟩ = some (.int .i64 (rd_T39 a (k : Int)).f0.f3) ∧ w'.cell? ⟨(ad.add (k * 7)).block, (ad.add (k * 7)).off + 4, none⟩ = some (.bool (rd_T39 a (k : Int)).f0.f4) ∧ w'.cell? ⟨(ad.add (k * 7)).block, (ad.add (k * 7)).off + 5, none⟩ = some (.int .i64 (rd_T39 a (k : Int)).f1) ∧ w'.cell? ⟨(ad.add (k * 7)).block, (ad.add (k * 7)).off + 6, none⟩ = some (.int .i64 (rd_T39 a (k : Int)).f2)) := fun w' h => ⟨h, pw_cell_below h q0, pw_cell_below h q1, pw_cell_below h q2, pw_cell_below h q3, pw_cell_below h q4, pw_cell_below h q5, pw_cell_below h q6⟩
      clear q0 q1 q2 q3 q4 q5 q6
      have HS := Aside0.mk hS
      clear hS
      go_wp2
      go_region_held3 (fun w' => Below w.heap.size w w' ∧ w'.cell? (ad.add (k * 7)) = some (.int .i64 (rd_T39 a (k : Int)).f0.f0) ∧ w'.cell? ⟨(ad.add (k * 7)).block, (ad.add (k * 7)).off + 1, none⟩ = some (.int .i64 (rd_T39 a (k : Int)).f0.f1) ∧ w'.cell? ⟨(ad.add (k * 7)).block, (ad.add (k * 7)).off + 2, none⟩ = some (.int .i64 (rd_T39 a (k : Int)).f0.f2) ∧ w'.cell? ⟨(ad.add (k * 7)).block, (ad.add (k * 7)).off + 3, none⟩ = some (.int .i64 (rd_T39 a (k : Int)).f0.f3) ∧ w'.cell? ⟨(ad.add (k * 7)).block, (ad.add (k * 7)).off + 4, none⟩ = some (.bool (rd_T39 a (k : Int)).f0.f4) ∧ w'.cell? ⟨(ad.add (k * 7)).block, (ad.add (k * 7)).off + 5, none⟩ = some (.int .i64 (rd_T39 a (k : Int)).f1) ∧ w'.cell? ⟨(ad.add (k * 7)).block, (ad.add (k * 7)).off + 6, none⟩ = some (.int .i64 (rd_T39 a (k : Int)).f2)) (exact HS.out _ (by first | exact below_drew1 hb | exact below_step (‹Below w.heap.size w _ ∧ _›).1 (by assumption)))
        (first | (go_at_call 14; (with_reducible refine (count_c B d b (rd_T39 a (k : Int)) _ (Kd.C_below CB.out (‹Below w.heap.size w _ ∧ _›).1) hd).mono ?_); rintro e w1 ⟨rfl, hb1⟩) | (go_at_call 14; (with_reducible refine (count_c (some ad) c a (rd_T39 a (k : Int)) _ (Kd.C_below CA.out (‹Below w.heap.size w _ ∧ _›).1) hc).mono ?_); rintro e w1 ⟨rfl, hb1⟩))
      all_goals
        have hW := (‹Below w.heap.size w _ ∧ _›).1
        by_cases ht : cnt b (rd_T39 a (k : Int)) < cnt a (rd_T39 a (k : Int))
        · go_wp2
          go_ret
          exact ⟨by rw [inB, H2.out (by simp [ht])]; rfl, hW⟩
        · go_wp2
          go_roundw
          case rel => exact ⟨k + 1, by omega, by go_num, hW, by rw [H1.out, HE.out]; simp [ht]⟩
          case measure => simp [intOf]; omega
    · go_wp2
      go_ret
      have hk' : k = a.length := by omega
      subst hk'
      have h1 := HE.out
      rw [List.take_length] at h1
      exact ⟨by rw [inB, h1]; rfl, hb⟩
end Go.Proofs.Ytcnhjbpgjemnhaa.Sv
