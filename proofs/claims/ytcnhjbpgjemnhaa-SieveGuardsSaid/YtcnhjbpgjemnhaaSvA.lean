/- The closures of package sieve, and what parts notes: the four ways: what each hands back. -/
import Derived.Test.YtcnhjbpgjemnhaaX2
import Derived.Shelf.Abstract
namespace Go.Proofs.Ytcnhjbpgjemnhaa.Sv
open Go.RowKit Go.Proofs.YtcnhjbpgjemnhaaW.PrintWords Go.Proofs.YtcnhjbpgjemnhaaW.PrintLast Go.Proofs.YtcnhjbpgjemnhaaW.PrintMore Go.Proofs.Ytcnhjbpgjemnhaa.X
set_option linter.unusedVariables false
set_option linter.unusedSimpArgs false

def noteV (x : S39) : Value := v39 x
abbrev noteO (x : S39) : Obj := o39 x
def epB (now : Int) (x : S39) : Bool := decide (now < -9223372036854775806) || decide (x.f2 > now - 2)
set_option maxHeartbeats 400000 in
theorem epochs_cl (now : Int) (hn : -9223372036854775808 ≤ now ∧ now ≤ 9223372036854775807) (B : Nat) (x : S39) (w : World) (hc : w.cell? ⟨B, 0, none⟩ = some (.int .i64 now)) (hB : B < w.heap.size) :
    Calls Try.prog 22 #[noteV x, .pointer (some ⟨B, 0, none⟩)] w fun e w' => e = .returned (.bool (epB now x)) ∧ Below w.heap.size w w' := by
  unfold noteV v39
  have hu39 := Try.underlying39
  have hc1 : (w.alloc (noteO x)).cell? ⟨B, 0, none⟩ = some (.int .i64 now) := pw_cell_below (below_alloc (Below.refl _ _) _) hc
  by_cases h1 : now < -9223372036854775806
  · have : epB now x = true := by simp [epB, h1]
    rw [this]
    go_enter Try.func22, Try.ntmps22
    go_wp2
    go_ret
    exact ⟨rfl, below_alloc (Below.refl _ _) _⟩
  · have : epB now x = decide (x.f2 > now - 2) := by simp [epB, h1]
    rw [this]
    go_enter Try.func22, Try.ntmps22
    go_wp2
    go_ret
    exact ⟨rfl, below_alloc (Below.refl _ _) _⟩

def slB (kept : List S37) (x : S39) : Bool := kept.any fun y => y.f0 == x.f0.f0
set_option maxHeartbeats 400000 in
theorem slots_cl (A : Option Addr) (c : Nat) (kept : List S37) (B : Nat) (x : S39) (w : World) (hc : w.cell? ⟨B, 0, none⟩ = some (.slice A kept.length c)) (hB : B < w.heap.size) (hk : Kd.C k37 w A kept.length kept) :
    Calls Try.prog 23 #[noteV x, .pointer (some ⟨B, 0, none⟩)] w fun e w' => e = .returned (.bool (slB kept x)) ∧ Below w.heap.size w w' := by
  unfold noteV v39
  have hu39 := Try.underlying39
  have hu37 := Try.underlying37
  have hlen := Kd.C_max hk
  have hc1 : (w.alloc (noteO x)).cell? ⟨B, 0, none⟩ = some (.slice A kept.length c) := pw_cell_below (below_alloc (Below.refl _ _) _) hc
  have HK := Aside0.mk hk
  clear hk
  go_enter Try.func23, Try.ntmps23
  go_wp2
  go_loopw [8] (fun i wr => ∃ k : Nat, k ≤ kept.length ∧ i = .int .i64 k ∧ Below w.heap.size w wr ∧ wr.cell? ⟨w.heap.size, 0, none⟩ = some (.int .i64 x.f0.f0) ∧ w.heap.size < wr.heap.size ∧ slB (kept.take k) x = false) (fun i _ => kept.length - (intOf i).toNat)
  case atStart => exact ⟨0, Nat.zero_le _, rfl, below_alloc (Below.refl _ _) _, by simp, by simp, rfl⟩
  case round =>
    obtain ⟨k, hkl, rfl, hb, hcx, hsz, hs⟩ := hrel
    have HS := Aside0.mk hs
    clear hs
    have HB := Aside0.mk hb
    clear hb
    by_cases hlt : k < kept.length
    · obtain ⟨ad, eA, q0, q1, q2, q3, q4⟩ := at_T37 HK.out (k : Int) (by omega) (by omega)
      replace q0 := pw_cell_below HB.out q0
      replace q1 := pw_cell_below HB.out q1
      replace q2 := pw_cell_below HB.out q2
      replace q3 := pw_cell_below HB.out q3
      replace q4 := pw_cell_below HB.out q4
      simp only [Int.toNat_natCast] at q0 q1 q2 q3 q4
      cases eA
      go_wp2
      · go_ret
        have ht : ((rd_T37 kept (k : Int)).f0 == x.f0.f0) = true := by assumption
        exact ⟨by rw [slB, any_at kept _ z37 k hlt (by simpa [rd_T37] using ht)]; rfl, below_alloc HB.out _⟩
      · have ht : ((rd_T37 kept (k : Int)).f0 == x.f0.f0) = false := by assumption
        go_roundw
        case rel => exact ⟨k + 1, by omega, by go_num, below_alloc HB.out _, pw_cell_below (below_alloc (Below.refl _ _) _) hcx, by simp; omega, by rw [slB, any_snoc kept _ z37 k hlt]; simp only [rd_T37, Int.toNat_natCast] at ht; rw [ht, Bool.or_false]; exact HS.out⟩
        case measure => simp [intOf]; omega
    · go_wp2
      go_ret
      have hk' : k = kept.length := by omega
      subst hk'
      have hs := HS.out
      rw [List.take_length] at hs
      exact ⟨by rw [hs]; rfl, HB.out⟩

def erB (kept : List Int) (x : S39) : Bool := kept.any fun e => decide (e > 0) && (decide (x.f1 ≤ e) && decide (e ≤ x.f2))
set_option maxHeartbeats 1000000 in
theorem eras_cl (A : Option Addr) (c : Nat) (kept : List Int) (B : Nat) (x : S39) (w : World) (hc : w.cell? ⟨B, 0, none⟩ = some (.slice A kept.length c)) (hB : B < w.heap.size) (hk : Kd.C (Kd.int .i64) w A kept.length kept) :
    Calls Try.prog 24 #[noteV x, .pointer (some ⟨B, 0, none⟩)] w fun e w' => e = .returned (.bool (erB kept x)) ∧ Below w.heap.size w w' := by
  unfold noteV v39
  have hu39 := Try.underlying39
  have hlen := Kd.C_max hk
  have hc1 : (w.alloc (noteO x)).cell? ⟨B, 0, none⟩ = some (.slice A kept.length c) := pw_cell_below (below_alloc (Below.refl _ _) _) hc
  have HK := Aside0.mk hk
  clear hk
  go_enter Try.func24, Try.ntmps24
  go_wp2
  go_loopw [8] (fun i wr => ∃ k : Nat, k ≤ kept.length ∧ i = .int .i64 k ∧ Below w.heap.size w wr ∧ wr.cell? ⟨w.heap.size, 5, none⟩ = some (.int .i64 x.f1) ∧ wr.cell? ⟨w.heap.size, 6, none⟩ = some (.int .i64 x.f2) ∧ w.heap.size < wr.heap.size ∧ erB (kept.take k) x = false) (fun i _ => kept.length - (intOf i).toNat)
  case atStart => exact ⟨0, Nat.zero_le _, rfl, below_alloc (Below.refl _ _) _, by simp, by simp, by simp, rfl⟩
  case round =>
    obtain ⟨k, hkl, rfl, hb, hcx, hcy, hsz, hs⟩ := hrel
    have HS := Aside0.mk hs
    clear hs
    have HB := Aside0.mk hb
    clear hb
    by_cases hlt : k < kept.length
    · obtain ⟨ad, eA, q0⟩ := Kd.at_int HK.out (k : Int) (by omega) (by omega)
      replace q0 := pw_cell_below HB.out q0
      simp only [Int.toNat_natCast] at q0
      cases eA
      have hr : rd kept (k : Int) = kept.getD k 0 := by simp [rd]
      have h1 := any_at kept (fun e => decide (e > 0) && (decide (x.f1 ≤ e) && decide (e ≤ x.f2))) 0 k hlt
      have h2 := any_snoc kept (fun e => decide (e > 0) && (decide (x.f1 ≤ e) && decide (e ≤ x.f2))) 0 k hlt
      rw [← hr] at h1 h2
      have H1 := Aside0.mk h1
      clear h1
      have H2 := Aside0.mk h2
      clear h2
      have HR := Aside0.mk hr
      clear hr
      go_wp2
      · go_ret
        exact ⟨by rw [erB, H1.out (by simp; omega)]; rfl, HB.out⟩
      all_goals
        go_roundw
        case rel => exact ⟨k + 1, by omega, by go_num, HB.out, hcx, hcy, hsz, by rw [erB, H2.out, show (kept.take k).any _ = false from HS.out]; simp; omega⟩
        case measure => simp [intOf]; omega
    · go_wp2
      go_ret
      have hk' : k = kept.length := by omega
      subst hk'
      have hs := HS.out
      rw [List.take_length] at hs
      exact ⟨by rw [hs]; rfl, HB.out⟩

def spB (kept : List S41) (x : S39) : Bool := kept.any fun s => s.f0 && (decide (s.f1 ≤ x.f2) && decide (x.f1 ≤ s.f2))
set_option maxHeartbeats 1000000 in
theorem spans_cl (A : Option Addr) (c : Nat) (kept : List S41) (B : Nat) (x : S39) (w : World) (hc : w.cell? ⟨B, 0, none⟩ = some (.slice A kept.length c)) (hB : B < w.heap.size) (hk : Kd.C k41 w A kept.length kept) :
    Calls Try.prog 25 #[noteV x, .pointer (some ⟨B, 0, none⟩)] w fun e w' => e = .returned (.bool (spB kept x)) ∧ Below w.heap.size w w' := by
  unfold noteV v39
  have hu39 := Try.underlying39
  have hu41 := Try.underlying41
  have hlen := Kd.C_max hk
  have hc1 : (w.alloc (noteO x)).cell? ⟨B, 0, none⟩ = some (.slice A kept.length c) := pw_cell_below (below_alloc (Below.refl _ _) _) hc
  have HK := Aside0.mk hk
  clear hk
  go_enter Try.func25, Try.ntmps25
  go_wp2
  go_loopw [8] (fun i wr => ∃ k : Nat, k ≤ kept.length ∧ i = .int .i64 k ∧ Below w.heap.size w wr ∧ wr.cell? ⟨w.heap.size, 5, none⟩ = some (.int .i64 x.f1) ∧ wr.cell? ⟨w.heap.size, 6, none⟩ = some (.int .i64 x.f2) ∧ w.heap.size < wr.heap.size ∧ spB (kept.take k) x = false) (fun i _ => kept.length - (intOf i).toNat)
  case atStart => exact ⟨0, Nat.zero_le _, rfl, below_alloc (Below.refl _ _) _, by simp, by simp, by simp, rfl⟩
  case round =>
    obtain ⟨k, hkl, rfl, hb, hcx, hcy, hsz, hs⟩ := hrel
    have HS := Aside0.mk hs
    clear hs
    have HB := Aside0.mk hb
    clear hb
    by_cases hlt : k < kept.length
    · obtain ⟨ad, eA, q0, q1, q2⟩ := at_T41 HK.out (k : Int) (by omega) (by omega)
      replace q0 := pw_cell_below HB.out q0
      replace q1 := pw_cell_below HB.out q1
      replace q2 := pw_cell_below HB.out q2
      simp only [Int.toNat_natCast] at q0 q1 q2
      cases eA
      have hr : rd_T41 kept (k : Int) = kept.getD k z41 := by simp [rd_T41]
      have h1 := any_at kept (fun s => s.f0 && (decide (s.f1 ≤ x.f2) && decide (x.f1 ≤ s.f2))) z41 k hlt
      have h2 := any_snoc kept (fun s => s.f0 && (decide (s.f1 ≤ x.f2) && decide (x.f1 ≤ s.f2))) z41 k hlt
      rw [← hr] at h1 h2
      have H1 := Aside0.mk h1
      clear h1
      have H2 := Aside0.mk h2
      clear h2
      have HR := Aside0.mk hr
      clear hr
      go_wp2
      · go_ret
        have t0 : (rd_T41 kept (k : Int)).f0 = true := by assumption
        exact ⟨by rw [spB, H1.out (by simp [t0]; omega)]; rfl, below_alloc HB.out _⟩
      · go_roundw
        case rel => exact ⟨k + 1, by omega, by go_num, below_alloc HB.out _, pw_cell_below (below_alloc (Below.refl _ _) _) hcx, pw_cell_below (below_alloc (Below.refl _ _) _) hcy, by simp; omega, by rw [spB, H2.out, show (kept.take k).any _ = false from HS.out]; simp; omega⟩
        case measure => simp [intOf]; omega
      · go_roundw
        case rel => exact ⟨k + 1, by omega, by go_num, below_alloc HB.out _, pw_cell_below (below_alloc (Below.refl _ _) _) hcx, pw_cell_below (below_alloc (Below.refl _ _) _) hcy, by simp; omega, by rw [spB, H2.out, show (kept.take k).any _ = false from HS.out]; simp; omega⟩
        case measure => simp [intOf]; omega
      · have t0 : ¬ (rd_T41 kept (k : Int)).f0 = true := by assumption
        go_roundw
        case rel => exact ⟨k + 1, by omega, by go_num, below_alloc HB.out _, pw_cell_below (below_alloc (Below.refl _ _) _) hcx, pw_cell_below (below_alloc (Below.refl _ _) _) hcy, by simp; omega, by rw [spB, H2.out, show (kept.take k).any _ = false from HS.out]; simp [t0]⟩
        case measure => simp [intOf]; omega
    · go_wp2
      go_ret
      have hk' : k = kept.length := by omega
      subst hk'
      have hs := HS.out
      rw [List.take_length] at hs
      exact ⟨by rw [hs]; rfl, HB.out⟩

theorem other_row {e : Nat} {W w1 : World} {base : Nat} {u v v1 : Value} {xs : List S39} (h : Kd.R k39 e W base (fun k => some k ≠ v.ownBlock) u xs) (hg : W.grownBy w1 v.ownBlock) (hat : v1.ownBlock = v.ownBlock ∨ ∃ b, v1.ownBlock = some b ∧ W.heap.size ≤ b) : Kd.R k39 e w1 base (fun k => some k ≠ v1.ownBlock) u xs :=
  Kd.R_mono (Kd.R_after (ok := fun _ => True) (Kd.R_mono h (fun _ hk => ⟨trivial, hk⟩)) hg hat) (fun _ hk => hk.2)
set_option maxHeartbeats 1000000 in
theorem parted (g : Nat) (hen : Go.Proofs.Enters Try.prog g) (lb : Value) (p : S39 → Bool) (A : Option Addr) (c : Nat) (l : List S39) (w : World) (hl : Kd.C k39 w A l.length l) (hc : l.length ≤ c) (hlim : l.length ≤ 1000000)
    (hst : ∀ W x, Below w.heap.size w W → Calls Try.prog g #[noteV x, lb] W fun e W' => e = .returned (.bool (p x)) ∧ Below W.heap.size W W') :
    Calls Try.prog 21 #[.slice A l.length c, .func (.func g) #[] #[lb]] w fun e w' => ∃ v1 v2 : Value, e = .returned (.tuple #[v1, v2]) ∧ Kd.R k39 39 w' w.heap.size (fun k_ => some k_ ≠ v2.ownBlock) v1 (l.filter fun x => !p x) ∧ Kd.R k39 39 w' w.heap.size (fun k_ => some k_ ≠ v1.ownBlock) v2 (l.filter p) ∧ Below w.heap.size w w' := by
  have hu39 := Try.underlying39
  have hlen := Kd.C_max hl
  have HL := Aside0.mk hl
  clear hl
  have HST := Aside0.mk hst
  clear hst
  have hen1 := hen
  unfold Go.Proofs.Enters at hen1
  go_enter Try.func21, Try.ntmps21
  go_wp2
  go_loopw [4, 5, 10] (fun v1 v2 i wr => ∃ k : Nat, k ≤ l.length ∧ i = .int .i64 k ∧ Kd.R k39 39 wr w.heap.size (fun k_ => some k_ ≠ v2.ownBlock) v1 ((l.take k).filter fun x => !p x) ∧ Kd.R k39 39 wr w.heap.size (fun k_ => some k_ ≠ v1.ownBlock) v2 ((l.take k).filter p) ∧ Below w.heap.size w wr) (fun _ _ i _ => l.length - (intOf i).toNat)
  case atStart => exact ⟨0, Nat.zero_le _, rfl, Kd.R_nil _ _ _ _ _, Kd.R_nil _ _ _ _ _, Below.refl _ _⟩
  case round =>
    obtain ⟨k, hkl, rfl, hv1, hv2, hb⟩ := hrel
    have HV1 := Aside0.mk hv1
    clear hv1
    have HV2 := Aside0.mk hv2
    clear hv2
    have HB := Aside0.mk hb
    clear hb
    by_cases hlt : k < l.length
    · obtain ⟨ad, eA, q0, q1, q2, q3, q4, q5, q6⟩ := at_T39 HL.out (k : Int) (by omega) (by omega)
      replace q0 := pw_cell_below HB.out q0
      replace q1 := pw_cell_below HB.out q1
      replace q2 := pw_cell_below HB.out q2
      replace q3 := pw_cell_below HB.out q3
      replace q4 := pw_cell_below HB.out q4
      replace q5 := pw_cell_below HB.out q5
      replace q6 := pw_cell_below HB.out q6
      simp only [Int.toNat_natCast] at q0 q1 q2 q3 q4 q5 q6
      cases eA
      have hr : rd_T39 l (k : Int) = l.getD k z39 := by simp [rd_T39]
      have f1 := filter_snoc l p z39 k hlt
      have f2 := filter_snoc l (fun x => !p x) z39 k hlt
      have n1 : ((l.take k).filter p).length ≤ k := Nat.le_trans (List.length_filter_le _ _) (List.length_take_le _ _)
      have n2 : ((l.take k).filter fun x => !p x).length ≤ k := Nat.le_trans (List.length_filter_le _ _) (List.length_take_le _ _)
      rw [← hr] at f1 f2
      obtain ⟨b, hpb⟩ : ∃ b, p (rd_T39 l (k : Int)) = b := ⟨_, rfl⟩
      rw [hpb] at f1 f2
      have F1 := Aside0.mk f1
      clear f1
      have F2 := Aside0.mk f2
      clear f2
      have HR := Aside0.mk hr
      clear hr
      go_wp2_with fail
      refine (HST.out _ (rd_T39 l (k : Int)) (below_alloc HB.out _)).mono ?_
      rintro e w1 ⟨rfl, hb1⟩
      rw [hpb]
      have c0 := pw_cell_below hb1 (a := ⟨wr.heap.size, 0, none⟩) (v := .int .i64 (rd_T39 l (k : Int)).f0.f0) (by simp)
      have c1 := pw_cell_below hb1 (a := ⟨wr.heap.size, 1, none⟩) (v := .int .i64 (rd_T39 l (k : Int)).f0.f1) (by simp)
      have c2 := pw_cell_below hb1 (a := ⟨wr.heap.size, 2, none⟩) (v := .int .i64 (rd_T39 l (k : Int)).f0.f2) (by simp)
      have c3 := pw_cell_below hb1 (a := ⟨wr.heap.size, 3, none⟩) (v := .int .i64 (rd_T39 l (k : Int)).f0.f3) (by simp)
      have c4 := pw_cell_below hb1 (a := ⟨wr.heap.size, 4, none⟩) (v := .bool (rd_T39 l (k : Int)).f0.f4) (by simp)
      have c5 := pw_cell_below hb1 (a := ⟨wr.heap.size, 5, none⟩) (v := .int .i64 (rd_T39 l (k : Int)).f1) (by simp)
      have c6 := pw_cell_below hb1 (a := ⟨wr.heap.size, 6, none⟩) (v := .int .i64 (rd_T39 l (k : Int)).f2) (by simp)
      have HB1 := Aside0.mk (below_step (below_alloc HB.out _) hb1)
      have HU1 := Aside0.mk (Kd.R_below (Kd.R_alloc HV1.out (noteO (rd_T39 l (k : Int)))) hb1)
      have HU2 := Aside0.mk (Kd.R_below (Kd.R_alloc HV2.out (noteO (rd_T39 l (k : Int)))) hb1)
      clear hb1 HV1 HV2 HB q0 q1 q2 q3 q4 q5 q6
      cases b
      · go_wp2_with ((with_reducible refine gate_builtin (b := .append) (xs := #[.tmp 21, .tmp 23]) rfl ?_); at_builtin; refine Kd.R_append k39 (w0 := w) w.heap.size rfl (.tmp 21) (.tmp 23) 22 39 (.agg #[(.int .i64 0), (.int .i64 0), (.int .i64 0), (.int .i64 0), (.bool false), (.int .i64 0), (.int .i64 0)]) 56 rfl Try.underlying22 info39 rfl (by decide) (by omega) u4 ((l.take k).filter fun x => !p x) (rd_T39 l (k : Int)) [.int .i64 (rd_T39 l (k : Int)).f0.f0, .int .i64 (rd_T39 l (k : Int)).f0.f1, .int .i64 (rd_T39 l (k : Int)).f0.f2, .int .i64 (rd_T39 l (k : Int)).f0.f3, .bool (rd_T39 l (k : Int)).f0.f4, .int .i64 (rd_T39 l (k : Int)).f1, .int .i64 (rd_T39 l (k : Int)).f2] (fun k_ => some k_ ≠ u5.ownBlock) (fun _ => False) rfl (by first | (go_simp; done) | (go_simp; rfl)) (k39_mkM _ _ _ _) (fun _ hk => hk.elim) (Kd.fresh_ok HU2.out) HU1.out HB1.out (below_size HB1.out) (by omega) ?_; intro v3 w3 ho hb hg hat)
        have R1 := Aside0.mk ho
        have R2 := Aside0.mk (other_row HU2.out hg hat)
        have HB := Aside0.mk hb
        clear hb
        clear ho hg hat HU1 HU2 HB1
        go_roundw
        case rel => exact ⟨k + 1, by omega, by go_num, by rw [F2.out]; exact R1.out, by rw [F1.out]; simpa using R2.out, HB.out⟩
        case measure => simp [intOf]; omega
      · go_wp2_with ((with_reducible refine gate_builtin (b := .append) (xs := #[.tmp 17, .tmp 19]) rfl ?_); at_builtin; refine Kd.R_append k39 (w0 := w) w.heap.size rfl (.tmp 17) (.tmp 19) 22 39 (.agg #[(.int .i64 0), (.int .i64 0), (.int .i64 0), (.int .i64 0), (.bool false), (.int .i64 0), (.int .i64 0)]) 56 rfl Try.underlying22 info39 rfl (by decide) (by omega) u5 ((l.take k).filter p) (rd_T39 l (k : Int)) [.int .i64 (rd_T39 l (k : Int)).f0.f0, .int .i64 (rd_T39 l (k : Int)).f0.f1, .int .i64 (rd_T39 l (k : Int)).f0.f2, .int .i64 (rd_T39 l (k : Int)).f0.f3, .bool (rd_T39 l (k : Int)).f0.f4, .int .i64 (rd_T39 l (k : Int)).f1, .int .i64 (rd_T39 l (k : Int)).f2] (fun k_ => some k_ ≠ u4.ownBlock) (fun _ => False) rfl (by first | (go_simp; done) | (go_simp; rfl)) (k39_mkM _ _ _ _) (fun _ hk => hk.elim) (Kd.fresh_ok HU1.out) HU2.out HB1.out (below_size HB1.out) (by omega) ?_; intro v3 w3 ho hb hg hat)
        have R1 := Aside0.mk ho
        have R2 := Aside0.mk (other_row HU1.out hg hat)
        have HB := Aside0.mk hb
        clear hb
        clear ho hg hat HU1 HU2 HB1
        go_roundw
        case rel => exact ⟨k + 1, by omega, by go_num, by rw [F2.out]; simpa using R2.out, by rw [F1.out]; exact R1.out, HB.out⟩
        case measure => simp [intOf]; omega
    · go_wp2
      go_ret2
      have hk' : k = l.length := by omega
      subst hk'
      have g1 := HV1.out
      have g2 := HV2.out
      rw [List.take_length] at g1 g2
      exact ⟨_, _, rfl, g1, g2, HB.out⟩

set_option maxHeartbeats 1000000 in
theorem Epochs (now : Int) (A : Option Addr) (c : Nat) (l : List S39) (w : World) (hl : Kd.C k39 w A l.length l) (hc : l.length ≤ c) (hlim : l.length ≤ 1000000) (hn : -9223372036854775808 ≤ now ∧ now ≤ 9223372036854775807) :
    Calls Try.prog 10 #[.slice A l.length c, .int .i64 now] w fun e w' => ∃ v1 v2 : Value, e = .returned (.tuple #[v1, v2]) ∧ Kd.R k39 39 w' w.heap.size (fun k_ => some k_ ≠ v2.ownBlock) v1 (l.filter fun x => !(epB now) x) ∧ Kd.R k39 39 w' w.heap.size (fun k_ => some k_ ≠ v1.ownBlock) v2 (l.filter (epB now)) ∧ Below w.heap.size w w' := by
  have hb0 := below_alloc (Below.refl w.heap.size w) (.cells #[.int .i64 now] 3)
  have H := parted 22 (enters_of Try.func22 (by kernel_rfl) rfl) (.pointer (some ⟨w.heap.size, 0, none⟩)) ((epB now)) A c l (w.alloc (.cells #[.int .i64 now] 3)) (Kd.C_below hl hb0) hc hlim (fun W x hB => epochs_cl now hn w.heap.size x W (pw_cell_below hB (a := ⟨w.heap.size, 0, none⟩) (by simp)) (by have := hB.size; simp at this; omega))
  have HB0 := Aside0.mk hb0
  clear hb0
  have HL := Aside0.mk hl
  clear hl
  go_enter Try.func10, Try.ntmps10
  go_wp2_with fail
  refine H.mono ?_
  rintro e w1 ⟨v1, v2, rfl, h1, h2, hb⟩
  have h3 : w.heap.size ≤ (w.alloc (.cells #[.int .i64 now] 3)).heap.size := by simp
  have HB := Aside0.mk (below_step HB0.out hb)
  have R1 := Aside0.mk (Kd.R_lower h1 h3)
  have R2 := Aside0.mk (Kd.R_lower h2 h3)
  clear h1 h2 hb H h3
  obtain ⟨A1, n1, rfl⟩ := Kd.R_slice R1.out
  obtain ⟨A2, n2, rfl⟩ := Kd.R_slice R2.out
  go_wp2
  go_ret2
  exact ⟨_, _, rfl, R1.out, R2.out, HB.out⟩

set_option maxHeartbeats 1000000 in
theorem Slots (A1 : Option Addr) (c1 : Nat) (kept : List S37) (A : Option Addr) (c : Nat) (l : List S39) (w : World) (hl : Kd.C k39 w A l.length l) (hc : l.length ≤ c) (hlim : l.length ≤ 1000000) (hk : Kd.C k37 w A1 kept.length kept) :
    Calls Try.prog 11 #[.slice A l.length c, .slice A1 kept.length c1] w fun e w' => ∃ v1 v2 : Value, e = .returned (.tuple #[v1, v2]) ∧ Kd.R k39 39 w' w.heap.size (fun k_ => some k_ ≠ v2.ownBlock) v1 (l.filter fun x => !(slB kept) x) ∧ Kd.R k39 39 w' w.heap.size (fun k_ => some k_ ≠ v1.ownBlock) v2 (l.filter (slB kept)) ∧ Below w.heap.size w w' := by
  have hb0 := below_alloc (Below.refl w.heap.size w) (.cells #[.slice A1 kept.length c1] 23)
  have H := parted 23 (enters_of Try.func23 (by kernel_rfl) rfl) (.pointer (some ⟨w.heap.size, 0, none⟩)) ((slB kept)) A c l (w.alloc (.cells #[.slice A1 kept.length c1] 23)) (Kd.C_below hl hb0) hc hlim (fun W x hB => slots_cl A1 c1 kept w.heap.size x W (pw_cell_below hB (a := ⟨w.heap.size, 0, none⟩) (by simp)) (by have := hB.size; simp at this; omega) (Kd.C_below (Kd.C_below hk (below_alloc (Below.refl _ _) _)) hB))
  have HB0 := Aside0.mk hb0
  clear hb0
  have HL := Aside0.mk hl
  clear hl
  go_enter Try.func11, Try.ntmps11
  go_wp2_with fail
  refine H.mono ?_
  rintro e w1 ⟨v1, v2, rfl, h1, h2, hb⟩
  have h3 : w.heap.size ≤ (w.alloc (.cells #[.slice A1 kept.length c1] 23)).heap.size := by simp
  have HB := Aside0.mk (below_step HB0.out hb)
  have R1 := Aside0.mk (Kd.R_lower h1 h3)
  have R2 := Aside0.mk (Kd.R_lower h2 h3)
  clear h1 h2 hb H h3
  obtain ⟨A1, n1, rfl⟩ := Kd.R_slice R1.out
  obtain ⟨A2, n2, rfl⟩ := Kd.R_slice R2.out
  go_wp2
  go_ret2
  exact ⟨_, _, rfl, R1.out, R2.out, HB.out⟩

set_option maxHeartbeats 1000000 in
theorem Eras (A1 : Option Addr) (c1 : Nat) (kept : List Int) (A : Option Addr) (c : Nat) (l : List S39) (w : World) (hl : Kd.C k39 w A l.length l) (hc : l.length ≤ c) (hlim : l.length ≤ 1000000) (hk : Kd.C (Kd.int .i64) w A1 kept.length kept) :
    Calls Try.prog 12 #[.slice A l.length c, .slice A1 kept.length c1] w fun e w' => ∃ v1 v2 : Value, e = .returned (.tuple #[v1, v2]) ∧ Kd.R k39 39 w' w.heap.size (fun k_ => some k_ ≠ v2.ownBlock) v1 (l.filter fun x => !(erB kept) x) ∧ Kd.R k39 39 w' w.heap.size (fun k_ => some k_ ≠ v1.ownBlock) v2 (l.filter (erB kept)) ∧ Below w.heap.size w w' := by
  have hb0 := below_alloc (Below.refl w.heap.size w) (.cells #[.slice A1 kept.length c1] 24)
  have H := parted 24 (enters_of Try.func24 (by kernel_rfl) rfl) (.pointer (some ⟨w.heap.size, 0, none⟩)) ((erB kept)) A c l (w.alloc (.cells #[.slice A1 kept.length c1] 24)) (Kd.C_below hl hb0) hc hlim (fun W x hB => eras_cl A1 c1 kept w.heap.size x W (pw_cell_below hB (a := ⟨w.heap.size, 0, none⟩) (by simp)) (by have := hB.size; simp at this; omega) (Kd.C_below (Kd.C_below hk (below_alloc (Below.refl _ _) _)) hB))
  have HB0 := Aside0.mk hb0
  clear hb0
  have HL := Aside0.mk hl
  clear hl
  go_enter Try.func12, Try.ntmps12
  go_wp2_with fail
  refine H.mono ?_
  rintro e w1 ⟨v1, v2, rfl, h1, h2, hb⟩
  have h3 : w.heap.size ≤ (w.alloc (.cells #[.slice A1 kept.length c1] 24)).heap.size := by simp
  have HB := Aside0.mk (below_step HB0.out hb)
  have R1 := Aside0.mk (Kd.R_lower h1 h3)
  have R2 := Aside0.mk (Kd.R_lower h2 h3)
  clear h1 h2 hb H h3
  obtain ⟨A1, n1, rfl⟩ := Kd.R_slice R1.out
  obtain ⟨A2, n2, rfl⟩ := Kd.R_slice R2.out
  go_wp2
  go_ret2
  exact ⟨_, _, rfl, R1.out, R2.out, HB.out⟩

set_option maxHeartbeats 1000000 in
theorem Spans (A1 : Option Addr) (c1 : Nat) (kept : List S41) (A : Option Addr) (c : Nat) (l : List S39) (w : World) (hl : Kd.C k39 w A l.length l) (hc : l.length ≤ c) (hlim : l.length ≤ 1000000) (hk : Kd.C k41 w A1 kept.length kept) :
    Calls Try.prog 13 #[.slice A l.length c, .slice A1 kept.length c1] w fun e w' => ∃ v1 v2 : Value, e = .returned (.tuple #[v1, v2]) ∧ Kd.R k39 39 w' w.heap.size (fun k_ => some k_ ≠ v2.ownBlock) v1 (l.filter fun x => !(spB kept) x) ∧ Kd.R k39 39 w' w.heap.size (fun k_ => some k_ ≠ v1.ownBlock) v2 (l.filter (spB kept)) ∧ Below w.heap.size w w' := by
  have hb0 := below_alloc (Below.refl w.heap.size w) (.cells #[.slice A1 kept.length c1] 25)
  have H := parted 25 (enters_of Try.func25 (by kernel_rfl) rfl) (.pointer (some ⟨w.heap.size, 0, none⟩)) ((spB kept)) A c l (w.alloc (.cells #[.slice A1 kept.length c1] 25)) (Kd.C_below hl hb0) hc hlim (fun W x hB => spans_cl A1 c1 kept w.heap.size x W (pw_cell_below hB (a := ⟨w.heap.size, 0, none⟩) (by simp)) (by have := hB.size; simp at this; omega) (Kd.C_below (Kd.C_below hk (below_alloc (Below.refl _ _) _)) hB))
  have HB0 := Aside0.mk hb0
  clear hb0
  have HL := Aside0.mk hl
  clear hl
  go_enter Try.func13, Try.ntmps13
  go_wp2_with fail
  refine H.mono ?_
  rintro e w1 ⟨v1, v2, rfl, h1, h2, hb⟩
  have h3 : w.heap.size ≤ (w.alloc (.cells #[.slice A1 kept.length c1] 25)).heap.size := by simp
  have HB := Aside0.mk (below_step HB0.out hb)
  have R1 := Aside0.mk (Kd.R_lower h1 h3)
  have R2 := Aside0.mk (Kd.R_lower h2 h3)
  clear h1 h2 hb H h3
  obtain ⟨A1, n1, rfl⟩ := Kd.R_slice R1.out
  obtain ⟨A2, n2, rfl⟩ := Kd.R_slice R2.out
  go_wp2
  go_ret2
  exact ⟨_, _, rfl, R1.out, R2.out, HB.out⟩
end Go.Proofs.Ytcnhjbpgjemnhaa.Sv
