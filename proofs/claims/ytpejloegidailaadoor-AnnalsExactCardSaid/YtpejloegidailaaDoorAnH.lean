/- AnnalsBack's walk. -/
import Derived.Test.YtpejloegidailaaDoorAnG
namespace Go.Proofs.YtpejloegidailaaDoor.An
open Go.RowKit Go.Proofs.YtpejloegidailaaDoorW.PrintWords Go.Proofs.YtpejloegidailaaDoorW.PrintLast Go.Proofs.YtpejloegidailaaDoorW.PrintMore Go.Proofs.YtpejloegidailaaDoor.X
set_option linter.unusedVariables false
set_option linter.unusedSimpArgs false
attribute [local go_sem high] eqA38 eqA36 eqA40

theorem rows_wf {es : List Ev} {st : List Rw} (h : rowsM es = .ok st) (hlim : es.length ≤ 1000000) (hwf : ∀ e ∈ es, I64 e.f0) : ∀ r ∈ st, I64 r.f0 ∧ I64 r.f3 ∧ I64 r.f4 := fun r hr => by
  have I := inv_of h
  obtain ⟨i, hi, rfl⟩ := List.getElem_of_mem hr
  have hg := List.getElem?_eq_getElem hi
  have h1 := I.from0 i _ hg
  have h2 := I.done i _ hg
  have h3 := I.open_ i _ hg
  have h4 := I.evF i _ hg
  refine ⟨hwf _ (List.mem_of_getElem? h4), ?_, ?_⟩
  · unfold I64; omega
  · unfold I64
    cases h5 : (st[i]).f5
    · have := h3 h5; omega
    · have := h2 h5; omega
theorem rows_len2 {es : List Ev} {st : List Rw} (h : rowsM es = .ok st) : st.length ≤ es.length := rows_len h
theorem ofM_out {l : List Rw} {out : List Ev} (h : ofM l = some out) : out = ofOut l := by
  unfold ofM at h
  split at h
  · cases h
  · split at h
    · split at h
      · injection h with h; exact h.symm
      · cases h
    · cases h
theorem ofOut_length (l : List Rw) : (ofOut l).length = cntM l := by unfold ofOut; rw [ofFold_length, List.length_replicate]
theorem cntM_le (l : List Rw) : cntM l ≤ 2 * l.length := by
  have := List.length_filter_le (fun r : Rw => r.f5) l
  unfold cntM; omega
theorem same_y {u v : Value} {a b : List Rw} {w : World} (ha : Sl k40 w u a) (hb : Sl k40 w v b) (h : a = b) : Calls Tryd.prog 12 #[u, v] w fun e w' => e = .returned (.bool true) ∧ Below w.heap.size w w' := by
  have := same_c ha hb
  rwa [decide_eq_true h] at this
theorem rows_ok2 {es : List Ev} {st : List Rw} {v : Value} {aA aS : Addr} {w : World} (h : rowsM es = .ok st) (hE : Sl k44 w v es) (hlim : es.length ≤ 1000000) (hwf : ∀ e ∈ es, I64 e.f0) (hA : w.cell? ⟨0, 0, none⟩ = some (Sent aA)) (hS : w.cell? ⟨1, 0, none⟩ = some (Sent aS)) :
    Calls Tryd.prog 9 #[v] w fun e w' => ∃ A c, e = .returned (.tuple #[.slice A st.length c, .nilIface]) ∧ Sl k40 w' (.slice A st.length c) st ∧ Below w.heap.size w w' := by
  refine (rows_ok h hE hlim hwf hA hS).mono ?_
  rintro e w1 ⟨u, rfl, hR, hb⟩
  obtain ⟨A, c, rfl⟩ := Kd.R_slice hR
  exact ⟨A, c, rfl, Sl_R hR, hb⟩
set_option maxHeartbeats 4000000 in
theorem back_walk (A0 : Option Addr) (c0 : Nat) (l0 : List Ev) (A1 : Option Addr) (c1 : Nat) (l1 : List Rw) (aA aS : Addr) (W : World) (hC0 : Kd.C k44 W A0 l0.length l0) (hl0 : l0.length ≤ c0) (hC1 : Kd.C k40 W A1 l1.length l1) (hl1 : l1.length ≤ c1)
    (hw0 : ∀ e ∈ l0, wf44 e) (hw1 : ∀ r ∈ l1, wf40 r) (hA : W.cell? gA = some (Sent aA)) (hS : W.cell? gS = some (Sent aS)) :
    Calls Tryd.prog 3 #[.slice A0 l0.length c0, .slice A1 l1.length c1] W fun e w' => e = .returned (.bool true) ∧ Below W.heap.size W w' := by
  have hlen := Kd.C_max hC0
  have hlen1 := Kd.C_max hC1
  have hv0 : ∀ e ∈ l0, I64 e.f0 := fun e he => (hw0 e he).1
  have hv1 : ∀ r ∈ l1, I64 r.f0 ∧ I64 r.f3 ∧ I64 r.f4 := fun r hr => ⟨(hw1 r hr).1, (hw1 r hr).2.2.2.1, (hw1 r hr).2.2.2.2.1⟩
  have HC0 := Aside0.mk hC0
  clear hC0
  have HC1 := Aside0.mk hC1
  clear hC1
  have HV0 := Aside0.mk hv0
  clear hv0
  have HV1 := Aside0.mk hv1
  clear hv1
  have HA := Aside0.mk hA
  clear hA
  have HS := Aside0.mk hS
  clear hS
  clear hw0 hw1
  go_enter Tryd.func3, Tryd.ntmps3
  go_wp2_with fail
  refine (awake_c aA aS W HA.out HS.out).mono ?_
  rintro e w1 ⟨rfl, hb⟩
  have HB := Aside0.mk hb
  clear hb
  by_cases g0 : 200 < l0.length
  · go_wp2
    go_ret
    exact ⟨rfl, HB.out⟩
  · by_cases g1 : 200 < l1.length
    · go_wp2
      go_ret
      exact ⟨rfl, HB.out⟩
    · go_wp2_with fail
      cases hr : rowsM l0 with
      | ok st =>
        have hof := of_back hr
        have hsl := rows_len hr
        have hsw := rows_wf hr (by omega) HV0.out
        refine (rows_ok2 hr (Sl_mk (Kd.C_below HC0.out HB.out) hl0) (by omega) HV0.out (pw_cell_below HB.out HA.out) (pw_cell_below HB.out HS.out)).mono ?_
        rintro e w2 ⟨A5, c5, rfl, hs, hb⟩
        replace HB := Aside0.mk (below_step HB.out hb)
        have H := of_ok hof hs (by omega) hsw (pw_cell_below HB.out HA.out) (pw_cell_below HB.out HS.out)
        clear hb hs hsw hr hof
        go_wp2_with fail
        refine H.mono ?_
        rintro e w3 ⟨v7, rfl, hs, hb⟩
        replace HB := Aside0.mk (below_step HB.out hb)
        replace H := alike_y hs (Sl_mk (Kd.C_below HC0.out HB.out) hl0) rfl
        clear hb hs
        go_wp2_with fail
        refine H.mono ?_
        rintro e w4 ⟨rfl, hb⟩
        replace HB := Aside0.mk (below_step HB.out hb)
        clear hb H
        obtain ⟨wt, rfl⟩ : ∃ z : World, z = w4 := ⟨_, rfl⟩
        go_wp2_with fail
        cases ho : ofM l1 with
        | some out =>
          have hrb := ofM_some ho
          have hoe := ofM_out ho
          have hlo : out.length ≤ 1000000 := by rw [hoe, ofOut_length]; have := cntM_le l1; omega
          have hwo : ∀ e ∈ out, I64 e.f0 := by rw [hoe]; exact ofOut_wf l1 (fun r hr => (HV1.out r hr).1)
          refine (of_ok ho (Sl_mk (Kd.C_below HC1.out HB.out) hl1) (by omega) HV1.out (pw_cell_below HB.out HA.out) (pw_cell_below HB.out HS.out)).mono ?_
          rintro e w6 ⟨v9, rfl, hs, hb⟩
          replace HB := Aside0.mk (below_step HB.out hb)
          have H := rows_ok2 hrb hs hlo hwo (pw_cell_below HB.out HA.out) (pw_cell_below HB.out HS.out)
          clear hb hs hrb hoe hlo hwo ho
          go_wp2_with fail
          refine H.mono ?_
          rintro e w7 ⟨A6, c6, rfl, hs, hb⟩
          replace HB := Aside0.mk (below_step HB.out hb)
          replace H := same_y hs (Sl_mk (Kd.C_below HC1.out HB.out) hl1) rfl
          clear hb hs
          go_wp2_with fail
          refine H.mono ?_
          rintro e w8 ⟨rfl, hb⟩
          go_wp2
          go_ret
          exact ⟨rfl, below_step HB.out hb⟩
        | none =>
          refine (of_no ho (Sl_mk (Kd.C_below HC1.out HB.out) hl1) (by omega) HV1.out (pw_cell_below HB.out HA.out) (pw_cell_below HB.out HS.out)).mono ?_
          rintro e w6 ⟨g9, p9, rfl, _, hb⟩
          go_wp2
          go_ret
          exact ⟨rfl, below_step HB.out hb⟩
      | error n =>
        refine (rows_no hr (Sl_mk (Kd.C_below HC0.out HB.out) hl0) (by omega) HV0.out (pw_cell_below HB.out HA.out) (pw_cell_below HB.out HS.out)).mono ?_
        rintro e w2 ⟨g5, p5, rfl, _, _, hb⟩
        replace HB := Aside0.mk (below_step HB.out hb)
        clear hb hr
        obtain ⟨wt, rfl⟩ : ∃ z : World, z = w2 := ⟨_, rfl⟩
        go_wp2_with fail
        cases ho : ofM l1 with
        | some out =>
          have hrb := ofM_some ho
          have hoe := ofM_out ho
          have hlo : out.length ≤ 1000000 := by rw [hoe, ofOut_length]; have := cntM_le l1; omega
          have hwo : ∀ e ∈ out, I64 e.f0 := by rw [hoe]; exact ofOut_wf l1 (fun r hr => (HV1.out r hr).1)
          refine (of_ok ho (Sl_mk (Kd.C_below HC1.out HB.out) hl1) (by omega) HV1.out (pw_cell_below HB.out HA.out) (pw_cell_below HB.out HS.out)).mono ?_
          rintro e w6 ⟨v9, rfl, hs, hb⟩
          replace HB := Aside0.mk (below_step HB.out hb)
          have H := rows_ok2 hrb hs hlo hwo (pw_cell_below HB.out HA.out) (pw_cell_below HB.out HS.out)
          clear hb hs hrb hoe hlo hwo ho
          go_wp2_with fail
          refine H.mono ?_
          rintro e w7 ⟨A6, c6, rfl, hs, hb⟩
          replace HB := Aside0.mk (below_step HB.out hb)
          replace H := same_y hs (Sl_mk (Kd.C_below HC1.out HB.out) hl1) rfl
          clear hb hs
          go_wp2_with fail
          refine H.mono ?_
          rintro e w8 ⟨rfl, hb⟩
          go_wp2
          go_ret
          exact ⟨rfl, below_step HB.out hb⟩
        | none =>
          refine (of_no ho (Sl_mk (Kd.C_below HC1.out HB.out) hl1) (by omega) HV1.out (pw_cell_below HB.out HA.out) (pw_cell_below HB.out HS.out)).mono ?_
          rintro e w6 ⟨g9, p9, rfl, _, hb⟩
          go_wp2
          go_ret
          exact ⟨rfl, below_step HB.out hb⟩
end Go.Proofs.YtpejloegidailaaDoor.An
