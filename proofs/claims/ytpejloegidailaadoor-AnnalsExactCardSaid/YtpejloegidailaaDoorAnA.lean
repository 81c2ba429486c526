/- Small functions of annals: isEvent, Ahead, Events; what they compute. -/
import Derived.Test.YtpejloegidailaaDoorAnM
import Derived.Test.YtpejloegidailaaDoorX3
namespace Go.Proofs.YtpejloegidailaaDoor.An
open Go.RowKit Go.Proofs.YtpejloegidailaaDoorW.PrintWords Go.Proofs.YtpejloegidailaaDoorW.PrintLast Go.Proofs.YtpejloegidailaaDoorW.PrintMore Go.Proofs.YtpejloegidailaaDoor.X
set_option linter.unusedVariables false
set_option linter.unusedSimpArgs false
attribute [local go_sem high] eqA38 eqA36

theorem isEvent_c (e : Ev) (w : World) : Calls Tryd.prog 24 #[v44 e] w fun r w' => r = .returned (.bool (isEv e)) ∧ Below w.heap.size w w' := by
  have h1 := Tryd.underlying44
  have h2 := Tryd.underlying36
  have h3 := Tryd.underlying38
  obtain ⟨t, b, o, a⟩ := e
  unfold v44
  cases b
  all_goals
    go_enter Tryd.func24, Tryd.ntmps24
    go_wp2
    go_ret
    exact ⟨rfl, below_alloc (Below.refl _ _) _⟩
theorem ahead_c (r s : Rw) (w : World) : Calls Tryd.prog 13 #[v40 r, v40 s] w fun e w' => e = .returned (.bool (aheadB r s)) ∧ Below w.heap.size w w' := by
  have h1 := Tryd.underlying40
  obtain ⟨r0, r1, r2, r3, r4, r5⟩ := r
  unfold v40
  cases r5
  all_goals
    go_enter Tryd.func13, Tryd.ntmps13
    go_wp2
    go_ret
    exact ⟨rfl, below_alloc (below_alloc (Below.refl _ _) _) _⟩
theorem undone_c (r : Rw) (w : World) : Calls Tryd.prog 30 #[v40 r] w fun e w' => e = .returned (.bool (!r.f5)) ∧ Below w.heap.size w w' := by
  have h1 := Tryd.underlying40
  unfold v40
  go_enter Tryd.func30, Tryd.ntmps30
  go_wp2
  go_ret
  exact ⟨rfl, below_alloc (Below.refl _ _) _⟩

/-! ### Events -/
def evB (b : Bt) : List Ev := (if b.f1 then [⟨b.f0, true, b.f2, z38⟩] else []) ++ (if b.f4 then [⟨b.f0, false, z36, b.f5⟩] else [])
def evsM (l : List Bt) : List Ev := l.flatMap evB
theorem evsM_snoc (l : List Bt) (k : Nat) (h : k < l.length) : evsM (l.take (k + 1)) = evsM (l.take k) ++ evB (rd_T48 l (k : Int)) := by
  rw [take_snoc l z48 k h]
  simp [evsM, rd_T48]
theorem evsM_length (l : List Bt) : (evsM l).length ≤ 2 * l.length := by
  induction l with
  | nil => simp [evsM]
  | cons b l ih =>
    simp only [evsM, List.flatMap_cons, List.length_append, List.length_cons] at ih ⊢
    have : (evB b).length ≤ 2 := by unfold evB; split <;> split <;> simp
    omega
set_option maxHeartbeats 2000000 in
theorem events_c (A : Option Addr) (c : Nat) (l : List Bt) (w : World) (hl : Kd.C k48 w A l.length l) (hlim : l.length ≤ 1000000) :
    Calls Tryd.prog 15 #[.slice A l.length c] w fun e w' => ∃ v : Value, e = .returned v ∧ Kd.R k44 44 w' w.heap.size (fun _ => True) v (evsM l) ∧ Below w.heap.size w w' := by
  have h1 := Tryd.underlying44
  have h2 := Tryd.underlying48
  have h3 := Tryd.underlying36
  have h4 := Tryd.underlying38
  have hlen := Kd.C_max hl
  have HL := Aside0.mk hl
  clear hl
  go_enter Tryd.func15, Tryd.ntmps15
  go_wp2
  go_loopw [2, 7] (fun v i wr => ∃ k : Nat, k ≤ l.length ∧ i = .int .i64 k ∧ Kd.R k44 44 wr w.heap.size (fun _ => True) v (evsM (l.take k)) ∧ Below w.heap.size w wr) (fun _ i _ => l.length - (intOf i).toNat)
  case atStart => exact ⟨0, Nat.zero_le _, rfl, Kd.R_nil _ _ _ _ _, Below.refl _ _⟩
  case round =>
    obtain ⟨k, hkl, rfl, hv, hb⟩ := hrel
    have HV := Aside0.mk hv
    clear hv
    have HB := Aside0.mk hb
    clear hb
    by_cases hlt : k < l.length
    · obtain ⟨ad, eA, q0, q1, q2, q3, q4, q5, q6, q7, q8, q9⟩ := at_T48 HL.out (k : Int) (by omega) (by omega)
      replace q0 := pw_cell_below HB.out q0
      replace q1 := pw_cell_below HB.out q1
      replace q2 := pw_cell_below HB.out q2
      replace q3 := pw_cell_below HB.out q3
      replace q4 := pw_cell_below HB.out q4
      replace q5 := pw_cell_below HB.out q5
      replace q6 := pw_cell_below HB.out q6
      replace q7 := pw_cell_below HB.out q7
      replace q8 := pw_cell_below HB.out q8
      replace q9 := pw_cell_below HB.out q9
      simp only [Int.toNat_natCast] at q0 q1 q2 q3 q4 q5 q6 q7 q8 q9
      cases eA
      have f1 := evsM_snoc l k hlt
      have n1 : (evsM (l.take k)).length ≤ 2 * k := Nat.le_trans (evsM_length _) (by simp; omega)
      have F1 := Aside0.mk f1
      clear f1
      obtain ⟨x, hx⟩ : ∃ x, x = rd_T48 l (k : Int) := ⟨_, rfl⟩
      rw [← hx] at q0 q1 q2 q3 q4 q5 q6 q7 q8 q9
      have HL' := HL
      clear HL
      have hr : x = rd_T48 l (k : Int) := hx
      clear hx
      have HR := Aside0.mk hr
      clear hr
      have done_ : ∀ (v : Value) (w' : World), Kd.R k44 44 w' w.heap.size (fun _ => True) v (evsM (l.take k) ++ evB x) → Kd.R k44 44 w' w.heap.size (fun _ => True) v (evsM (l.take (k + 1))) := fun v w' h => by rw [F1.out, ← HR.out]; exact h
      unfold evB at done_
      cases t1 : x.f1
      · rw [t1] at q1 done_
        cases t2 : x.f4
        · rw [t2] at q7 done_
          have DONE_ := Aside0.mk done_
          clear done_
          have HU := Aside0.mk (Kd.R_alloc HV.out (.cells #[.int .i64 x.f0, .bool false, .int .i64 x.f2.f0, .int .i64 x.f2.f1, .int .i64 x.f2.f2, .int .i64 x.f2.f3, .bool x.f3, .bool false, .int .i64 x.f5.f0, .int .i64 x.f5.f1] 48))
          go_wp2
          go_roundw
          case rel => exact ⟨k + 1, by omega, by go_num, DONE_.out _ _ (by simpa using HU.out), below_alloc HB.out _⟩
          case measure => simp [intOf]; omega
        · rw [t2] at q7 done_
          have DONE_ := Aside0.mk done_
          clear done_
          have HU := Aside0.mk (Kd.R_alloc HV.out (.cells #[.int .i64 x.f0, .bool false, .int .i64 x.f2.f0, .int .i64 x.f2.f1, .int .i64 x.f2.f2, .int .i64 x.f2.f3, .bool x.f3, .bool true, .int .i64 x.f5.f0, .int .i64 x.f5.f1] 48))
          have HB1 := Aside0.mk (below_alloc HB.out (.cells #[.int .i64 x.f0, .bool false, .int .i64 x.f2.f0, .int .i64 x.f2.f1, .int .i64 x.f2.f2, .int .i64 x.f2.f3, .bool x.f3, .bool true, .int .i64 x.f5.f0, .int .i64 x.f5.f1] 48))
          go_wp2_with ((with_reducible refine gate_builtin (b := .append) (xs := #[.tmp 23, .tmp 29]) rfl ?_); at_builtin; refine Kd.R_append k44 (w0 := w) w.heap.size rfl (.tmp 23) (.tmp 29) 22 44 _ _ rfl Tryd.underlying22 info44 rfl (by decide) (by first | omega | (simp only [List.length_append, List.length_cons, List.length_nil]; omega)) u2 (evsM (l.take k)) (⟨x.f0, false, z36, x.f5⟩) (c44 (⟨x.f0, false, z36, x.f5⟩)) (fun _ => True) (fun _ => False) rfl (by first | (go_simp; done) | (go_simp; rfl)) (k44_mkM _ _ _ _) (fun _ hk => hk.elim) (fun _ _ => trivial) HU.out HB1.out (below_size HB1.out) (by first | omega | (simp only [List.length_append, List.length_cons, List.length_nil]; omega)) ?_; intro v3 w3 ho hb hg hat)
          have HU2 := Aside0.mk ho
          have HB2 := Aside0.mk hb
          clear ho hb hg hat
          go_roundw
          case rel => exact ⟨k + 1, by omega, by go_num, DONE_.out _ _ (by simpa using HU2.out), HB2.out⟩
          case measure => simp [intOf]; omega
      · rw [t1] at q1 done_
        cases t2 : x.f4
        · rw [t2] at q7 done_
          have DONE_ := Aside0.mk done_
          clear done_
          have hbx := blk_new wr (.cells #[.int .i64 x.f0, .bool true, .int .i64 x.f2.f0, .int .i64 x.f2.f1, .int .i64 x.f2.f2, .int .i64 x.f2.f3, .bool x.f3, .bool false, .int .i64 x.f5.f0, .int .i64 x.f5.f1] 48)
          have hne : some wr.heap.size ≠ u2.ownBlock := fun e => absurd (Kd.R_lt HV.out _ e.symm) (Nat.lt_irrefl _)
          have HU := Aside0.mk (Kd.R_alloc HV.out (.cells #[.int .i64 x.f0, .bool true, .int .i64 x.f2.f0, .int .i64 x.f2.f1, .int .i64 x.f2.f2, .int .i64 x.f2.f3, .bool x.f3, .bool false, .int .i64 x.f5.f0, .int .i64 x.f5.f1] 48))
          have HB1 := Aside0.mk (below_alloc HB.out (.cells #[.int .i64 x.f0, .bool true, .int .i64 x.f2.f0, .int .i64 x.f2.f1, .int .i64 x.f2.f2, .int .i64 x.f2.f3, .bool x.f3, .bool false, .int .i64 x.f5.f0, .int .i64 x.f5.f1] 48))
          have HBX := Aside0.mk hbx
          clear hbx
          have HNE := Aside0.mk hne
          clear hne
          go_wp2_with ((with_reducible refine gate_builtin (b := .append) (xs := #[.tmp 13, .tmp 19]) rfl ?_); at_builtin; refine Kd.R_append k44 (w0 := w) w.heap.size rfl (.tmp 13) (.tmp 19) 22 44 _ _ rfl Tryd.underlying22 info44 rfl (by decide) (by first | omega | (simp only [List.length_append, List.length_cons, List.length_nil]; omega)) u2 (evsM (l.take k)) (⟨x.f0, true, x.f2, z38⟩) (c44 (⟨x.f0, true, x.f2, z38⟩)) (fun _ => True) (fun _ => False) rfl (by first | (go_simp; done) | (go_simp; rfl)) (k44_mkM _ _ _ _) (fun _ hk => hk.elim) (fun _ _ => trivial) HU.out HB1.out (below_size HB1.out) (by first | omega | (simp only [List.length_append, List.length_cons, List.length_nil]; omega)) ?_; intro v3 w3 ho hb hg hat; have hbx3 := (hg.block _ (blk_lt HBX.out) HNE.out).trans HBX.out; have c0 := (blk_cell hbx3 0).trans rfl; have c7 := (blk_cell hbx3 7).trans rfl; have c8 := (blk_cell hbx3 8).trans rfl; have c9 := (blk_cell hbx3 9).trans rfl)
          have HU2 := Aside0.mk ho
          have HB2 := Aside0.mk hb
          clear ho hb hg hat hbx3
          go_roundw
          case rel => exact ⟨k + 1, by omega, by go_num, DONE_.out _ _ (by simpa using HU2.out), HB2.out⟩
          case measure => simp [intOf]; omega
        · rw [t2] at q7 done_
          have DONE_ := Aside0.mk done_
          clear done_
          have hbx := blk_new wr (.cells #[.int .i64 x.f0, .bool true, .int .i64 x.f2.f0, .int .i64 x.f2.f1, .int .i64 x.f2.f2, .int .i64 x.f2.f3, .bool x.f3, .bool true, .int .i64 x.f5.f0, .int .i64 x.f5.f1] 48)
          have hne : some wr.heap.size ≠ u2.ownBlock := fun e => absurd (Kd.R_lt HV.out _ e.symm) (Nat.lt_irrefl _)
          have HU := Aside0.mk (Kd.R_alloc HV.out (.cells #[.int .i64 x.f0, .bool true, .int .i64 x.f2.f0, .int .i64 x.f2.f1, .int .i64 x.f2.f2, .int .i64 x.f2.f3, .bool x.f3, .bool true, .int .i64 x.f5.f0, .int .i64 x.f5.f1] 48))
          have HB1 := Aside0.mk (below_alloc HB.out (.cells #[.int .i64 x.f0, .bool true, .int .i64 x.f2.f0, .int .i64 x.f2.f1, .int .i64 x.f2.f2, .int .i64 x.f2.f3, .bool x.f3, .bool true, .int .i64 x.f5.f0, .int .i64 x.f5.f1] 48))
          have HBX := Aside0.mk hbx
          clear hbx
          have HNE := Aside0.mk hne
          clear hne
          go_wp2_with (first | ((with_reducible refine gate_builtin (b := .append) (xs := #[.tmp 13, .tmp 19]) rfl ?_); at_builtin; refine Kd.R_append k44 (w0 := w) w.heap.size rfl (.tmp 13) (.tmp 19) 22 44 _ _ rfl Tryd.underlying22 info44 rfl (by decide) (by first | omega | (simp only [List.length_append, List.length_cons, List.length_nil]; omega)) u2 (evsM (l.take k)) (⟨x.f0, true, x.f2, z38⟩) (c44 (⟨x.f0, true, x.f2, z38⟩)) (fun _ => True) (fun _ => False) rfl (by first | (go_simp; done) | (go_simp; rfl)) (k44_mkM _ _ _ _) (fun _ hk => hk.elim) (fun _ _ => trivial) HU.out HB1.out (below_size HB1.out) (by first | omega | (simp only [List.length_append, List.length_cons, List.length_nil]; omega)) ?_; intro v3 w3 ho hb hg hat; have hbx3 := (hg.block _ (blk_lt HBX.out) HNE.out).trans HBX.out; have c0 := (blk_cell hbx3 0).trans rfl; have c7 := (blk_cell hbx3 7).trans rfl; have c8 := (blk_cell hbx3 8).trans rfl; have c9 := (blk_cell hbx3 9).trans rfl; have HU2 := Aside0.mk ho; have HB2 := Aside0.mk hb; clear ho hb hg hat hbx3) | ((with_reducible refine gate_builtin (b := .append) (xs := #[.tmp 23, .tmp 29]) rfl ?_); at_builtin; refine Kd.R_append k44 (w0 := w) w.heap.size rfl (.tmp 23) (.tmp 29) 22 44 _ _ rfl Tryd.underlying22 info44 rfl (by decide) (by first | omega | (simp only [List.length_append, List.length_cons, List.length_nil]; omega)) v3 (evsM (l.take k) ++ [⟨x.f0, true, x.f2, z38⟩]) (⟨x.f0, false, z36, x.f5⟩) (c44 (⟨x.f0, false, z36, x.f5⟩)) (fun _ => True) (fun _ => False) rfl (by first | (go_simp; done) | (go_simp; rfl)) (k44_mkM _ _ _ _) (fun _ hk => hk.elim) (fun _ _ => trivial) HU2.out HB2.out (below_size HB2.out) (by first | omega | (simp only [List.length_append, List.length_cons, List.length_nil]; omega)) ?_; intro v3 w3 ho hb hg hat))
          have HU4 := Aside0.mk ho
          have HB4 := Aside0.mk hb
          clear ho hb hg hat
          go_roundw
          case rel => exact ⟨k + 1, by omega, by go_num, DONE_.out _ _ (by simpa using HU4.out), HB4.out⟩
          case measure => simp [intOf]; omega
    · go_wp2
      go_ret
      have hk' : k = l.length := by omega
      subst hk'
      have g1 := HV.out
      rw [List.take_length] at g1
      exact ⟨_, rfl, g1, HB.out⟩
end Go.Proofs.YtpejloegidailaaDoor.An
