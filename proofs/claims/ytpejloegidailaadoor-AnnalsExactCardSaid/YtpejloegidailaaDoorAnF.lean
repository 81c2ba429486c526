/- annals.Of: what it hands back; Alike. -/
import Derived.Test.YtpejloegidailaaDoorAnE
namespace Go.Proofs.YtpejloegidailaaDoor.An
open Go.RowKit Go.Proofs.YtpejloegidailaaDoorW.PrintWords Go.Proofs.YtpejloegidailaaDoorW.PrintLast Go.Proofs.YtpejloegidailaaDoorW.PrintMore Go.Proofs.YtpejloegidailaaDoor.X
set_option linter.unusedVariables false
set_option linter.unusedSimpArgs false
attribute [local go_sem high] eqA38 eqA36 eqA44

theorem set_wf {p : Ev → Prop} {l : List Ev} {i : Nat} {x : Ev} (h : ∀ e ∈ l, p e) (hx : p x) : ∀ e ∈ l.set i x, p e := fun e he => by
  rcases List.mem_or_eq_of_mem_set he with he | rfl
  · exact h e he
  · exact hx
theorem ofFold_wf : ∀ (l : List Rw) (out : List Ev), (∀ e ∈ out, I64 e.f0) → (∀ r ∈ l, I64 r.f0) → ∀ e ∈ ofFold out l, I64 e.f0
  | [], out, h, _ => h
  | r :: l, out, h, h' => ofFold_wf l (ofStep out r) (by
      have hr : I64 r.f0 := h' r (by simp)
      unfold ofStep
      split
      · exact set_wf (set_wf h hr) hr
      · exact set_wf h hr) (fun r hr => h' r (by simp [hr]))
theorem ofOut_wf (l : List Rw) (h : ∀ r ∈ l, I64 r.f0) : ∀ e ∈ ofOut l, I64 e.f0 := ofFold_wf l _ (fun e he => by
  obtain rfl := List.eq_of_mem_replicate he
  exact ⟨by decide, by decide⟩) h
theorem any_bad (l : List Rw) (k : Nat) (h : k < l.length) (n : Nat) (hn : n = cntM l) (hb : badB n (rd_T40 l (k : Int)) = true) : ofM l = none := by
  have : l.any (badB (cntM l)) = true := by
    rw [List.any_eq_true]
    refine ⟨l[k], List.getElem_mem h, ?_⟩
    have e : rd_T40 l (k : Int) = l[k] := by simp [rd_T40, List.getD, h]
    rw [← e, ← hn]
    exact hb
  unfold ofM
  rw [if_pos this]
theorem ofFold_next (out : List Ev) (l : List Rw) (k : Nat) (h : k < l.length) : ofFold out (l.take (k + 1)) = ofStep (ofFold out (l.take k)) (rd_T40 l (k : Int)) := by
  rw [take_snoc l z40 k h, ofFold_snoc]
  simp [rd_T40]
theorem any_next (l : List Rw) (p : Rw → Bool) (k : Nat) (h : k < l.length) (h1 : (l.take k).any p = false) (h2 : p (rd_T40 l (k : Int)) = false) : (l.take (k + 1)).any p = false := by
  rw [take_snoc l z40 k h, List.any_append, h1]
  simpa [rd_T40] using h2
/-- What Of answers. -/
def OfRes (w w' : World) (aA : Addr) (l : List Rw) (e : Ending) : Prop :=
  (∃ out v, ofM l = some out ∧ e = .returned (.tuple #[v, .nilIface]) ∧ Kd.R k44 44 w' w.heap.size (fun _ => True) v out) ∨
  (∃ g p, ofM l = none ∧ e = .returned (.tuple #[.slice none 0 0, AtPlace g]) ∧ w'.heap[g]? = some (.cells #[.int .i64 p, Sent aA] 77 (0, 0)))
set_option maxHeartbeats 4000000 in
theorem of_c (A : Option Addr) (c : Nat) (l : List Rw) (aA aS : Addr) (w : World) (hE : Kd.C k40 w A l.length l) (hc : l.length ≤ c) (hlim : l.length ≤ 400000) (hwf : ∀ r ∈ l, I64 r.f0 ∧ I64 r.f3 ∧ I64 r.f4) (hA : w.cell? ⟨0, 0, none⟩ = some (Sent aA)) (hS : w.cell? ⟨1, 0, none⟩ = some (Sent aS)) :
    Calls Tryd.prog 10 #[.slice A l.length c] w fun e w' => OfRes w w' aA l e ∧ Below w.heap.size w w' := by
  have h1 := Tryd.underlying44
  have h2 := Tryd.underlying36
  have h3 := Tryd.underlying38
  have h4 := Tryd.underlying40
  have hlen := Kd.C_max hE
  have hcnt : cntM l ≤ 2 * l.length := by
    have := List.length_filter_le (fun r : Rw => r.f5) l
    unfold cntM; omega
  obtain ⟨n, hn⟩ : ∃ n, n = cntM l := ⟨_, rfl⟩
  have HE := Aside0.mk hE
  clear hE
  have HWF := Aside0.mk hwf
  clear hwf
  have HA := Aside0.mk hA
  clear hA
  have HS := Aside0.mk hS
  clear hS
  go_enter Tryd.func10, Tryd.ntmps10
  go_wp2_with fail
  refine (count_c A c l _ HE.out hc (by omega)).mono ?_
  rintro e w1 ⟨rfl, hb1⟩
  rw [← hn]
  have HN := Aside0.mk hn
  clear hn
  have HB1 := Aside0.mk hb1
  clear hb1
  have hn1 : n ≤ 800000 := by rw [HN.out]; omega
  clear hcnt
  go_wp2_with ((with_reducible refine gate_ (.makeSlice 22 (.tmp 10) (.tmp 10)) rfl ?_); refine Kd.R_make k44 (w0 := w) w.heap.size 44 rfl rfl 22 (.tmp 10) (.tmp 10) rfl (n : Int) (by first | rfl | (go_simp; done)) (by first | rfl | (go_simp; done)) Tryd.underlying22 _ _ info44 rfl (by decide) (by decide) z44 (ok := fun _ => True) (okp := fun _ => False) (k44_mkM _ _ _ z44) (fun _ h => h.elim) trivial (by omega) (by simp; omega) HB1.out HB1.out.size ?_; intro v2 w2 hR2 hB2 hg2 hv2; refine hold ?_)
  unfold Hold
  obtain ⟨A2, c2, rfl⟩ := Kd.R_slice hR2
  rw [List.length_replicate, Int.toNat_natCast] at *
  obtain ⟨g, rfl⟩ : ∃ g, A2 = some ⟨g, 0, none⟩ := by
    cases A2 with
    | none => obtain ⟨b, hb, _⟩ := hv2; simp [Value.ownBlock] at hb
    | some ad => obtain ⟨g, rfl⟩ := Kd.R_head hR2; exact ⟨g, rfl⟩
  have HR2 := Aside0.mk hR2
  clear hR2
  have HB2 := Aside0.mk hB2
  clear hB2
  clear hg2 hv2 HB1
  go_wp2
  go_loopw [14] (fun i wr => ∃ (k : Nat) (out : List Ev), k ≤ l.length ∧ i = .int .i64 k ∧ out = ofFold (List.replicate n z44) (l.take k) ∧ (l.take k).any (badB n) = false ∧ Kd.R k44 44 wr w.heap.size (fun _ => True) (.slice (some ⟨g, 0, none⟩) n c2) out ∧ Below w.heap.size w wr) (fun i _ => l.length - (intOf i).toNat)
  case atStart => exact ⟨0, _, Nat.zero_le _, rfl, rfl, rfl, HR2.out, HB2.out⟩
  case round =>
    obtain ⟨k, out, hkl, rfl, hout, hnb, hR, hb⟩ := hrel
    have holen : out.length = n := by rw [hout, ofFold_length, List.length_replicate]
    have HOUT := Aside0.mk hout
    clear hout
    have HNB := Aside0.mk hnb
    clear hnb
    have HR := Aside0.mk hR
    clear hR
    have HB := Aside0.mk hb
    clear hb
    by_cases hlt : k < l.length
    · obtain ⟨ad, eA, q0, q1, q2, q3, q4, q5, q6, q7, q8, q9⟩ := at_T40 HE.out (k : Int) (by omega) (by omega)
      replace q0 := pw_cell_below HB.out q0
      replace q1 := pw_cell_below HB.out q1
      replace q2 := pw_cell_below HB.out q2
      replace q3 := pw_cell_below HB.out q3
      replace q4 := pw_cell_below HB.out q4
      replace q5 := pw_cell_below HB.out q5
      replace q6 := pw_cell_below HB.out q6
      replace q7 := pw_cell_below HB.out q7
      replace q8 := pw_cell_below HB.out q8
      replace q9 := pw_cell_below HB.out q9
      simp only [Int.toNat_natCast] at q0 q1 q2 q3 q4 q5 q6 q7 q8 q9
      cases eA
      obtain ⟨x, hx⟩ : ∃ x, x = rd_T40 l (k : Int) := ⟨_, rfl⟩
      rw [← hx] at q0 q1 q2 q3 q4 q5 q6 q7 q8 q9
      have hw3 := HWF.out (rd_T40 l (k : Int)) (by
        have e : rd_T40 l (k : Int) = l[k] := by simp [rd_T40, List.getD, hlt]
        rw [e]; exact List.getElem_mem hlt)
      rw [← hx] at hw3
      obtain ⟨b5, hb5⟩ : ∃ b, x.f5 = b := ⟨_, rfl⟩
      rw [hb5] at q9
      have hbad := any_bad l k hlt n HN.out
      have hnx := any_next l (badB n) k hlt HNB.out
      have hfn := ofFold_next (List.replicate n z44) l k hlt
      rw [← hx] at hbad hnx hfn
      rw [← HOUT.out] at hfn
      have hA1 := pw_cell_below HB.out HA.out
      have hbx0 := blk_new wr (.cells #[.int .i64 x.f0, .int .i64 x.f1.f0, .int .i64 x.f1.f1, .int .i64 x.f1.f2, .int .i64 x.f1.f3, .int .i64 x.f2.f0, .int .i64 x.f2.f1, .int .i64 x.f3, .int .i64 x.f4, .bool b5] 40)
      have hB1 := below_alloc HB.out (.cells #[.int .i64 x.f0, .int .i64 x.f1.f0, .int .i64 x.f1.f1, .int .i64 x.f1.f2, .int .i64 x.f1.f3, .int .i64 x.f2.f0, .int .i64 x.f2.f1, .int .i64 x.f3, .int .i64 x.f4, .bool b5] 40)
      have hA2 := pw_cell_below hB1 HA.out
      obtain ⟨hw0, hw3, hw4⟩ := hw3
      unfold I64 at hw3 hw4
      have hbd : badB n x = (decide (x.f3 < 0) || (decide ((n : Int) ≤ x.f3) || (b5 && (decide (x.f4 < 0) || decide ((n : Int) ≤ x.f4))))) := by rw [← hb5]; rfl
      have hos : ofStep out x = if b5 then (out.set x.f3.toNat (fromEv x)).set x.f4.toNat (toEv x) else out.set x.f3.toNat (fromEv x) := by rw [← hb5]; rfl
      have HB5 := Aside0.mk hb5
      clear hb5
      have HOS := Aside0.mk hos
      clear hos
      have HBAD := Aside0.mk hbad
      clear hbad
      have HNX := Aside0.mk hnx
      clear hnx
      have HFN := Aside0.mk hfn
      clear hfn
      have HX := Aside0.mk hx
      clear hx
      have HW0 := Aside0.mk hw0
      clear hw0
      have HBX0 := Aside0.mk hbx0
      clear hbx0
      have HB1 := Aside0.mk hB1
      clear hB1
      have HBD := Aside0.mk hbd
      clear hbd
      by_cases g1 : x.f3 < 0
      · have hno := HBAD.out (by rw [HBD.out]; simp [g1])
        have HNO := Aside0.mk hno
        clear hno
        go_wp2_with fail
        refine (at_c (k : Int) aA _).mono ?_
        rintro e w3 ⟨gv, rfl, hv, hb3⟩
        go_wp2
        go_ret2
        exact ⟨.inr ⟨gv, k, HNO.out, rfl, hv⟩, below_step HB1.out hb3⟩
      · by_cases g2 : (n : Int) ≤ x.f3
        · have hno := HBAD.out (by rw [HBD.out]; simp [g2])
          have HNO := Aside0.mk hno
          clear hno
          go_wp2_with fail
          refine (at_c (k : Int) aA _).mono ?_
          rintro e w3 ⟨gv, rfl, hv, hb3⟩
          go_wp2
          go_ret2
          exact ⟨.inr ⟨gv, k, HNO.out, rfl, hv⟩, below_step HB1.out hb3⟩
        · have hglt := Kd.R_lt HR.out g (by simp [Value.ownBlock])
          have hne : some wr.heap.size ≠ some g := fun e => by injection e with e; omega
          have hR1 := Kd.R_alloc HR.out (.cells #[.int .i64 x.f0, .int .i64 x.f1.f0, .int .i64 x.f1.f1, .int .i64 x.f1.f2, .int .i64 x.f1.f3, .int .i64 x.f2.f0, .int .i64 x.f2.f1, .int .i64 x.f3, .int .i64 x.f4, .bool b5] 40)
          have HNE := Aside0.mk hne
          clear hne
          have HR1 := Aside0.mk hR1
          clear hR1
          obtain ⟨ca, hcl, _, hcc, _⟩ := Kd.R_elem HR1.out z44 x.f3 (by omega) (by omega)
          have hcl' : ca.length = 8 := hcl
          have hcM : k44.M (wr.alloc (.cells #[.int .i64 x.f0, .int .i64 x.f1.f0, .int .i64 x.f1.f1, .int .i64 x.f1.f2, .int .i64 x.f1.f3, .int .i64 x.f2.f0, .int .i64 x.f2.f1, .int .i64 x.f3, .int .i64 x.f4, .bool b5] 40)) w.heap.size (fun _ => False) (⟨x.f0, true, x.f1, ⟨0, 0⟩⟩ : Ev) (ca.take 0 ++ c44 ⟨x.f0, true, x.f1, ⟨0, 0⟩⟩ ++ ca.drop (0 + (c44 (⟨x.f0, true, x.f1, ⟨0, 0⟩⟩ : Ev)).length)) := by
            rw [List.take_zero, List.nil_append, List.drop_eq_nil_of_le (by rw [hcl']; simp), List.append_nil]
            exact k44_mkM _ _ _ ⟨x.f0, true, x.f1, ⟨0, 0⟩⟩
          have CAL := Aside0.mk hcl
          have CAC := Aside0.mk hcc
          have CAM := Aside0.mk hcM
          clear hcl hcc hcM hcl'
          cases b5
          · go_wp2_with ((with_reducible refine gate_ (.store 44 (.tmp 56) (.tmp 55)) rfl ?_); refine Kd.R_store k44 (w0 := w) w.heap.size rfl rfl 44 (.tmp 56) (.tmp 55) rfl 44 x.f3 0 out ⟨x.f0, true, x.f1, ⟨0, 0⟩⟩ (v44 ⟨x.f0, true, x.f1, ⟨0, 0⟩⟩) (c44 ⟨x.f0, true, x.f1, ⟨0, 0⟩⟩) ca (fun _ => True) (fun _ => False) (by first | (go_simp; done) | (go_simp; rfl)) rfl (by first | (go_simp; done) | (go_simp; rfl)) rfl (by kernel_rfl) (by simp [Value.oneCell']) HR1.out (by omega) (by omega) CAL.out CAC.out (Nat.le_refl 8) CAM.out (fun _ h => h.elim) HB1.out ?_; intro w3 ho hb hg; have hbx3 := blk_grownBy hg HNE.out HBX0.out; have d0 := (blk_cell hbx3 0).trans rfl; have d1 := (blk_cell hbx3 1).trans rfl; have d2 := (blk_cell hbx3 2).trans rfl; have d3 := (blk_cell hbx3 3).trans rfl; have d4 := (blk_cell hbx3 4).trans rfl; have d5 := (blk_cell hbx3 5).trans rfl; have d6 := (blk_cell hbx3 6).trans rfl; have d7 := (blk_cell hbx3 7).trans rfl; have d8 := (blk_cell hbx3 8).trans rfl; have d9 := (blk_cell hbx3 9).trans rfl; have HB3 := Aside0.mk hb; have HO3 := Aside0.mk ho; clear ho hb hg hbx3)
            have HNX2 := Aside0.mk (HNX.out (by rw [HBD.out]; simp [g1, g2]))
            clear d0 d1 d2 d3 d4 d5 d6 d7 d8 d9
            go_roundw
            case rel => exact ⟨k + 1, _, by omega, by go_num, (by rw [HFN.out, HOS.out]; rfl), HNX2.out, HO3.out, HB3.out⟩
            case measure => simp [intOf]; omega
          · by_cases g3 : x.f4 < 0
            · have hno := HBAD.out (by rw [HBD.out]; simp [g3])
              have HNO := Aside0.mk hno
              clear hno
              go_wp2_with fail
              refine (at_c (k : Int) aA _).mono ?_
              rintro e w3 ⟨gv, rfl, hv, hb3⟩
              go_wp2
              go_ret2
              exact ⟨.inr ⟨gv, k, HNO.out, rfl, hv⟩, below_step HB1.out hb3⟩
            · by_cases g4 : (n : Int) ≤ x.f4
              · have hno := HBAD.out (by rw [HBD.out]; simp [g4])
                have HNO := Aside0.mk hno
                clear hno
                go_wp2_with fail
                refine (at_c (k : Int) aA _).mono ?_
                rintro e w3 ⟨gv, rfl, hv, hb3⟩
                go_wp2
                go_ret2
                exact ⟨.inr ⟨gv, k, HNO.out, rfl, hv⟩, below_step HB1.out hb3⟩
              · go_wp2_with (first | ((with_reducible refine gate_ (.store 44 (.tmp 56) (.tmp 55)) rfl ?_); refine Kd.R_store k44 (w0 := w) w.heap.size rfl rfl 44 (.tmp 56) (.tmp 55) rfl 44 x.f3 0 out ⟨x.f0, true, x.f1, ⟨0, 0⟩⟩ (v44 ⟨x.f0, true, x.f1, ⟨0, 0⟩⟩) (c44 ⟨x.f0, true, x.f1, ⟨0, 0⟩⟩) ca (fun _ => True) (fun _ => False) (by first | (go_simp; done) | (go_simp; rfl)) rfl (by first | (go_simp; done) | (go_simp; rfl)) rfl (by kernel_rfl) (by simp [Value.oneCell']) HR1.out (by omega) (by omega) CAL.out CAC.out (Nat.le_refl 8) CAM.out (fun _ h => h.elim) HB1.out ?_; intro w3 ho hb hg; have hbx3 := blk_grownBy hg HNE.out HBX0.out; have d0 := (blk_cell hbx3 0).trans rfl; have d1 := (blk_cell hbx3 1).trans rfl; have d2 := (blk_cell hbx3 2).trans rfl; have d3 := (blk_cell hbx3 3).trans rfl; have d4 := (blk_cell hbx3 4).trans rfl; have d5 := (blk_cell hbx3 5).trans rfl; have d6 := (blk_cell hbx3 6).trans rfl; have d7 := (blk_cell hbx3 7).trans rfl; have d8 := (blk_cell hbx3 8).trans rfl; have d9 := (blk_cell hbx3 9).trans rfl; have HB3 := Aside0.mk hb; have HO3 := Aside0.mk ho; clear ho hb hg hbx3) | ((with_reducible refine gate_ (.store 44 (.tmp 67) (.tmp 66)) rfl ?_); refine hold ?_))
                unfold Hold
                obtain ⟨cb, hcl, _, hcc, _⟩ := Kd.R_elem HO3.out z44 x.f4 (by omega) (by omega)
                have hcl' : cb.length = 8 := hcl
                have hcM : k44.M w3 w.heap.size (fun _ => False) (⟨x.f0, false, ⟨0, 0, 0, 0⟩, x.f2⟩ : Ev) (cb.take 0 ++ c44 ⟨x.f0, false, ⟨0, 0, 0, 0⟩, x.f2⟩ ++ cb.drop (0 + (c44 (⟨x.f0, false, ⟨0, 0, 0, 0⟩, x.f2⟩ : Ev)).length)) := by
                  rw [List.take_zero, List.nil_append, List.drop_eq_nil_of_le (by rw [hcl']; simp), List.append_nil]
                  exact k44_mkM _ _ _ ⟨x.f0, false, ⟨0, 0, 0, 0⟩, x.f2⟩
                have CBL := Aside0.mk hcl
                have CBC := Aside0.mk hcc
                have CBM := Aside0.mk hcM
                clear hcl hcc hcM hcl'
                refine hold ?_
                unfold Hold
                refine Kd.R_store k44 (w0 := w) w.heap.size rfl rfl 44 (.tmp 67) (.tmp 66) rfl 44 x.f4 0 (out.set x.f3.toNat ⟨x.f0, true, x.f1, ⟨0, 0⟩⟩) ⟨x.f0, false, ⟨0, 0, 0, 0⟩, x.f2⟩ (v44 ⟨x.f0, false, ⟨0, 0, 0, 0⟩, x.f2⟩) (c44 ⟨x.f0, false, ⟨0, 0, 0, 0⟩, x.f2⟩) cb (fun _ => True) (fun _ => False) (by first | (go_simp; done) | (go_simp; rfl)) rfl (by first | (go_simp; done) | (go_simp; rfl)) rfl (by kernel_rfl) (by simp [Value.oneCell']) HO3.out (by omega) (by omega) CBL.out CBC.out (Nat.le_refl 8) CBM.out (fun _ h => h.elim) HB3.out ?_
                intro w4 ho hb hg
                go_wp2
                have HNX2 := Aside0.mk (HNX.out (by rw [HBD.out]; simp [g1, g2, g3, g4]))
                clear d0 d1 d2 d3 d4 d5 d6 d7 d8 d9
                go_roundw
                case rel => exact ⟨k + 1, _, by omega, by go_num, (by rw [HFN.out, HOS.out]; rfl), HNX2.out, ho, hb⟩
                case measure => simp [intOf]; omega
    · obtain rfl : k = l.length := by omega
      have hou : out = ofOut l := by
        have h9 := HOUT.out
        rw [List.take_length] at h9
        rw [h9, HN.out]; rfl
      have hnb2 : l.any (badB (cntM l)) = false := by
        have h9 := HNB.out
        rw [List.take_length] at h9
        rw [← HN.out]; exact h9
      subst holen
      have hCo := (Kd.R_reads' HR.out).2.2
      have hA1 := pw_cell_below HB.out HA.out
      have hS1 := pw_cell_below HB.out HS.out
      have hwo : ∀ e ∈ out, I64 e.f0 := by rw [hou]; exact ofOut_wf l (fun r hr => (HWF.out r hr).1)
      have hRo := rows_c _ c2 out aA aS wr hCo (by omega) hwo hA1 hS1
      have hOf : ofM l = match rowsM out with
          | .ok back => if back = l then some out else none
          | .error _ => none := by
        unfold ofM
        rw [if_neg (by simpa using hnb2), ← hou]
        cases rowsM out <;> rfl
      clear hCo hwo hou hnb2
      have HRO := Aside0.mk hRo
      clear hRo
      have HOF := Aside0.mk hOf
      clear hOf
      go_wp2_with fail
      refine HRO.out.mono ?_
      rintro e w3 ⟨hres, hb3⟩
      have HB3 := Aside0.mk (below_step HB.out hb3)
      have HR3 := Aside0.mk (Kd.R_below HR.out hb3)
      have hA3 := pw_cell_below HB3.out HA.out
      clear hA1 hS1
      rcases hres with ⟨st, v, hst, rfl, hRv⟩ | ⟨c9, g9, p9, hst, rfl, _, _⟩
      · have hOf2 := HOF.out
        rw [hst] at hOf2
        simp only at hOf2
        have HV := Aside0.mk hRv
        have HOF2 := Aside0.mk hOf2
        clear hOf2
        clear HOF hst hRv hb3
        obtain ⟨Av, cv, rfl⟩ := Kd.R_slice HV.out
        go_wp2_with fail
        refine (same_c (Sl_R HV.out) (Sl_mk (Kd.C_below HE.out HB3.out) hc)).mono ?_
        rintro e w4 ⟨rfl, hb4⟩
        have hA4 := pw_cell_below hb4 hA3
        have HB4 := Aside0.mk (below_step HB3.out hb4)
        have HR4 := Aside0.mk (Kd.R_below HR3.out hb4)
        clear hb4
        by_cases hq : st = l
        · have hOf3 := HOF2.out
          rw [if_pos hq] at hOf3
          rw [decide_eq_true hq]
          have HOF3 := Aside0.mk hOf3
          clear hOf3
          have HQ := Aside0.mk hq
          clear hq
          clear HOF2
          go_wp2
          go_ret2
          exact ⟨.inl ⟨out, _, HOF3.out, rfl, HR4.out⟩, HB4.out⟩
        · have hOf3 := HOF2.out
          rw [if_neg hq] at hOf3
          rw [decide_eq_false hq]
          have HOF3 := Aside0.mk hOf3
          clear hOf3
          have HQ := Aside0.mk hq
          clear hq
          clear HOF2
          go_wp2_with fail
          refine (at_c (l.length : Int) aA _).mono ?_
          rintro e w5 ⟨gv, rfl, hv, hb5⟩
          go_wp2
          go_ret2
          exact ⟨.inr ⟨gv, l.length, HOF3.out, rfl, hv⟩, below_step HB4.out hb5⟩
      · have hOf2 := HOF.out
        rw [hst] at hOf2
        simp only at hOf2
        have HOF2 := Aside0.mk hOf2
        clear hOf2
        clear HOF hst hb3
        go_wp2_with fail
        refine (at_c (l.length : Int) aA _).mono ?_
        rintro e w5 ⟨gv, rfl, hv, hb5⟩
        go_wp2
        go_ret2
        exact ⟨.inr ⟨gv, l.length, HOF2.out, rfl, hv⟩, below_step HB3.out hb5⟩

/-! ### Alike -/
set_option maxHeartbeats 1000000 in
theorem alike_c {u v : Value} {a b : List Ev} {w : World} (ha : Sl k44 w u a) (hb : Sl k44 w v b) :
    Calls Tryd.prog 11 #[u, v] w fun e w' => e = .returned (.bool (decide (a = b))) ∧ Below w.heap.size w w' := by
  obtain ⟨A, c, rfl, _, ca⟩ := ha
  obtain ⟨B, d, rfl, _, cb⟩ := hb
  have hla := Kd.C_max ca
  have hlb := Kd.C_max cb
  have h1 := Tryd.underlying44
  have h2 := Tryd.underlying36
  have h3 := Tryd.underlying38
  have CA := Aside0.mk ca
  clear ca
  have CB := Aside0.mk cb
  clear cb
  by_cases hlen : a.length = b.length
  · have hl1 : (a.length != b.length) = false := by simp [hlen]
    have hl2 : ((a.length : Int) != (b.length : Int)) = false := by simp [hlen]
    have HLEN := Aside0.mk hlen
    clear hlen
    go_enter Tryd.func11, Tryd.ntmps11
    go_wp2
    go_loopw [5] (fun i wr => ∃ k : Nat, k ≤ a.length ∧ i = .int .i64 k ∧ Below w.heap.size w wr ∧ a.take k = b.take k) (fun i _ => a.length - (intOf i).toNat)
    case atStart => exact ⟨0, Nat.zero_le _, rfl, Below.refl _ _, rfl⟩
    case round =>
      obtain ⟨k, hkl, rfl, hb, he⟩ := hrel
      have HB := Aside0.mk hb
      clear hb
      have HE := Aside0.mk he
      clear he
      by_cases hlt : k < a.length
      · have hlt2 : k < b.length := by rw [← HLEN.out]; exact hlt
        have hkk : (0 : Int) ≤ (k : Int) := by omega
        have hkn : (k : Int) < (a.length : Int) := by omega
        have hkm : (k : Int) < (b.length : Int) := by omega
        have hta := take_snoc a z44 k hlt
        have htb := take_snoc b z44 k hlt2
        have hra : rd_T44 a (k : Int) = a.getD k z44 := by simp [rd_T44]
        have hrb : rd_T44 b (k : Int) = b.getD k z44 := by simp [rd_T44]
        rw [← hra] at hta
        rw [← hrb] at htb
        have HTA := Aside0.mk hta
        clear hta
        have HTB := Aside0.mk htb
        clear htb
        have HRA := Aside0.mk hra
        clear hra
        have HRB := Aside0.mk hrb
        clear hrb
        obtain ⟨ad, eA, q0, q1, q2, q3, q4, q5, q6, q7⟩ := at_T44 CA.out (k : Int) (by omega) (by omega)
        replace q0 := pw_cell_below HB.out q0
        replace q1 := pw_cell_below HB.out q1
        replace q2 := pw_cell_below HB.out q2
        replace q3 := pw_cell_below HB.out q3
        replace q4 := pw_cell_below HB.out q4
        replace q5 := pw_cell_below HB.out q5
        replace q6 := pw_cell_below HB.out q6
        replace q7 := pw_cell_below HB.out q7
        simp only [Int.toNat_natCast] at q0 q1 q2 q3 q4 q5 q6 q7
        cases eA
        obtain ⟨ad, eA, r0, r1, r2, r3, r4, r5, r6, r7⟩ := at_T44 CB.out (k : Int) (by omega) (by omega)
        replace r0 := pw_cell_below HB.out r0
        replace r1 := pw_cell_below HB.out r1
        replace r2 := pw_cell_below HB.out r2
        replace r3 := pw_cell_below HB.out r3
        replace r4 := pw_cell_below HB.out r4
        replace r5 := pw_cell_below HB.out r5
        replace r6 := pw_cell_below HB.out r6
        replace r7 := pw_cell_below HB.out r7
        simp only [Int.toNat_natCast] at r0 r1 r2 r3 r4 r5 r6 r7
        cases eA
        cases hq : eqB44 (rd_T44 a (k : Int)) (rd_T44 b (k : Int))
        · have hn : decide (a = b) = false := by
            simp only [decide_eq_false_iff_not]
            rintro rfl
            rw [eqB44_self] at hq
            cases hq
          have HN := Aside0.mk hn
          clear hn
          simp only [eqB44, eqB36, eqB38] at hq
          go_wp2
          go_quiet (fail)
          go_wp2
          go_ret
          exact ⟨by rw [HN.out]; rfl, pw_below_drewN HB.out _⟩
        · have he2 : a.take (k + 1) = b.take (k + 1) := by rw [HTA.out, HTB.out, HE.out, (eqB44_iff _ _).1 hq]
          have HE2 := Aside0.mk he2
          clear he2
          simp only [eqB44, eqB36, eqB38] at hq
          go_wp2
          go_quiet (fail)
          go_wp2
          go_roundw
          case rel => exact ⟨k + 1, by omega, by go_num, pw_below_drewN HB.out _, HE2.out⟩
          case measure => simp [intOf]; omega
      · go_wp2
        go_ret
        have hk' : k = a.length := by omega
        have h1 := HE.out
        rw [hk', List.take_length, HLEN.out, List.take_length] at h1
        exact ⟨by rw [h1]; simp, HB.out⟩
  · have hl1 : (a.length != b.length) = true := by simp [hlen]
    have hl2 : ((a.length : Int) != (b.length : Int)) = true := by simp; omega
    have hf : decide (a = b) = false := by simp; rintro rfl; exact hlen rfl
    rw [hf]
    clear hlen hf
    go_enter Tryd.func11, Tryd.ntmps11
    go_wp2
    go_ret
    exact ⟨rfl, Below.refl _ _⟩
end Go.Proofs.YtpejloegidailaaDoor.An
