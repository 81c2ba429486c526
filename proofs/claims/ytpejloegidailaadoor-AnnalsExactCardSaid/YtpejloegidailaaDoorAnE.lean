/- annals.Rows: what it hands back. (Partly printed by gen_rows.py.) -/
import Derived.Test.YtpejloegidailaaDoorAnD
import Derived.Test.YtpejloegidailaaDoorSt
import Derived.Test.YtpejloegidailaaDoorEr
import Derived.Test.YtpejloegidailaaDoorWInvWords
import Derived.Maps.OwnOps
import Derived.Carry
namespace Go.Proofs.YtpejloegidailaaDoor.An
open Go.RowKit Go.Maps Go.Proofs.YtpejloegidailaaDoorW.PrintWords Go.Proofs.YtpejloegidailaaDoorW.PrintLast Go.Proofs.YtpejloegidailaaDoorW.PrintMore Go.Proofs.YtpejloegidailaaDoor.X
set_option linter.unusedVariables false
set_option linter.unusedSimpArgs false
attribute [local go_sem high] eqA38 eqA36

theorem law3 : Keyed Tryd.prog 3 := int_keyed Tryd.underlying3
theorem zero3 (w : World) : (zeroValue 3).run Tryd.prog w = .ok (.int .i64 0) w := by kernel_rfl
theorem row_mix {w w' : World} {g cap : Nat} {st : List Rw} {k_ : Nat} {r : Rw} (h : Kd.R k40 40 w' w.heap.size (fun _ => True) (.slice (some ⟨g, 0, none⟩) st.length cap) st) (hk : k_ < st.length) (hr : st[k_]? = some r) (x : Ev) (k : Nat) :
    Kd.R k40 40 w'.drew w.heap.size (fun _ => True) (.slice (some ⟨g, 0, none⟩) st.length cap) (st.set k_ (mixR false false false r x k)) := by
  have e : st.set k_ (mixR false false false r x k) = st := by
    rw [mixR_no]
    refine List.ext_getElem? (fun i => ?_)
    rw [List.getElem?_set]
    split
    · rename_i hi; subst hi; rw [hr]
    · rfl
  rw [e]
  exact Kd.R_below h (below_drew (Below.refl _ _))
theorem R_other {α : Type} {d : Kd α} {e base : Nat} {w w1 : World} {v : Value} {xs : List α} {row : Option Nat} (hE : d.E = []) (h : Kd.R d e w base (fun _ => True) v xs) (hg : w.grownBy w1 row) (hne : ∀ k, v.ownBlock = some k → some k ≠ row) : Kd.R d e w1 base (fun _ => True) v xs :=
  Kd.R_mono (Kd.R_step (Kd.R_tight hE h) (fun k hk hl => hg.block k hl (hne k hk.symm))) (fun _ _ => trivial)
def rows.T9 : Bool × List (List Nat × List Nat) := (true, [([], []), ([], []), ([], []), ([], []), ([], []), ([4], [4]), ([0, 0, 3], [0]), ([6, 0, 3], [6]), ([7, 3, 0, 3], [3, 7]), ([1, 0, 1, 3, 6, 7, 8], [1]), ([9, 0, 1, 3, 6, 7, 8], [9]), ([10, 8, 0, 1, 3, 6, 7, 8], [10]), ([2, 0, 1, 2, 3, 4, 5, 6, 7, 8, 9, 10, 11], [2]), ([12, 0, 1, 2, 3, 4, 5, 6, 7, 8, 9, 10, 11], [12]), ([13, 5, 11, 0, 1, 2, 3, 4, 5, 6, 7, 8, 9, 10, 11], [5, 13])])
def rows.B9 : List Nat := [0, 0, 0, 0, 0, 16, 9, 73, 201, 459, 971, 1995, 4095, 8191, 16383]
theorem rows.tab9 : rtab .any (opsOf Tryd.f9 9) = rows.T9 := by kernel_rfl
theorem rows.bits9 : waitsOk rows.T9.2 rows.B9 = true := by kernel_rfl
/-- What Rows answers. -/
def RowsRes (w w' : World) (aA aS : Addr) (es : List Ev) (e : Ending) : Prop :=
  (∃ st v, rowsM es = .ok st ∧ e = .returned (.tuple #[v, .nilIface]) ∧ Kd.R k40 40 w' w.heap.size (fun _ => True) v st) ∨
  (∃ c g p, rowsM es = .error c ∧ e = .returned (.tuple #[.slice none 0 0, AtPlace g]) ∧ (c = 1 ∨ c = 5) ∧ w'.heap[g]? = some (.cells #[.int .i64 p, Sent (if c = 1 then aA else aS)] 77 (0, 0)))
set_option maxHeartbeats 4000000 in
theorem rows_c (A : Option Addr) (c : Nat) (es : List Ev) (aA aS : Addr) (w : World) (hE : Kd.C k44 w A es.length es) (hlim : es.length ≤ 1000000) (hwf : ∀ e ∈ es, I64 e.f0) (hA : w.cell? ⟨0, 0, none⟩ = some (Sent aA)) (hS : w.cell? ⟨1, 0, none⟩ = some (Sent aS)) :
    Calls Tryd.prog 9 #[.slice A es.length c] w fun e w' => RowsRes w w' aA aS es e ∧ Below w.heap.size w w' := by
  have h1 := Tryd.underlying44
  have h2 := Tryd.underlying36
  have h3 := Tryd.underlying38
  have h4 := Tryd.underlying40
  have hlen := Kd.C_max hE
  have hmm := @run_makeMap Tryd.prog
  have HE := Aside0.mk hE
  clear hE
  have HWF := Aside0.mk hwf
  clear hwf
  have HA := Aside0.mk hA
  clear hA
  have HS := Aside0.mk hS
  clear hS
  go_enter Tryd.func9, Tryd.ntmps9
  go_wp2
  go_loopw [4, 14] (fun v i wr => ∃ (k n : Nat) (st : List Rw) (D : DataW Unit), k ≤ es.length ∧ i = .int .i64 k ∧ n ≤ k ∧ rowsM (es.take k) = .ok st ∧ Kd.R k40 40 wr w.heap.size (fun _ => True) v st ∧ wr.ownsMap Tryd.prog 3 (plainElem Tryd.prog 3) w.heap.size n D ∧ Rep D st ∧ Below w.heap.size w wr) (fun _ i _ => es.length - (intOf i).toNat)
  case atStart => exact ⟨0, 0, [], .map [], Nat.zero_le _, rfl, Nat.le_refl _, rfl, Kd.R_nil _ _ _ _ _, World.ownsMap_made _ _ _ _, rep_nil, below_alloc (Below.refl _ _) _⟩
  case round =>
    obtain ⟨k, n_, st, D, hkl, rfl, hnk, hst, hR, hM, hrep, hb⟩ := hrel
    have hlt1 : k < es.length → ∃ x, rd_T44 es (k : Int) = x ∧ es.take (k + 1) = es.take k ++ [x] ∧ I64 x.f0 := fun h => ⟨_, rfl, by rw [take_snoc es z44 k h]; simp [rd_T44], by
      have : rd_T44 es (k : Int) = es[k] := by simp [rd_T44, List.getD, h]
      rw [this]
      exact HWF.out _ (List.getElem_mem h)⟩
    have hsl := rows_len hst
    have hsk : st.length ≤ k := by rw [List.length_take] at hsl; omega
    obtain ⟨A1, n1, rfl⟩ := Kd.R_slice hR
    have HST := Aside0.mk hst
    clear hst
    have HR := Aside0.mk hR
    clear hR
    have HM := Aside0.mk hM
    clear hM
    have HREP := Aside0.mk hrep
    clear hrep
    have HB := Aside0.mk hb
    clear hb
    have HSL := Aside0.mk hsl
    clear hsl
    by_cases hlt : k < es.length
    · obtain ⟨ad, eA, q0, q1, q2, q3, q4, q5, q6, q7⟩ := at_T44 HE.out (k : Int) (by omega) (by omega)
      replace q0 := pw_cell_below HB.out q0
      replace q1 := pw_cell_below HB.out q1
      replace q2 := pw_cell_below HB.out q2
      replace q3 := pw_cell_below HB.out q3
      replace q4 := pw_cell_below HB.out q4
      replace q5 := pw_cell_below HB.out q5
      replace q6 := pw_cell_below HB.out q6
      replace q7 := pw_cell_below HB.out q7
      simp only [Int.toNat_natCast] at q0 q1 q2 q3 q4 q5 q6 q7
      cases eA
      obtain ⟨x, hx, htk, hxw⟩ := hlt1 hlt
      rw [hx] at q0 q1 q2 q3 q4 q5 q6 q7
      clear hlt1 hx
      have hstep : rowsM (es.take (k + 1)) = rstep st k x := by
        rw [htk, rowsM_snoc _ _ HST.out, List.length_take, Nat.min_eq_left hkl]
      have hall : ∀ c, rstep st k x = .error c → rowsM es = .error c := fun c hc => by
        have := rowsM_err (es.take (k + 1)) (es.drop (k + 1)) (hstep.trans hc)
        rwa [List.take_append_drop] at this
      have hkey : keyOf Tryd.prog 3 (.int .i64 x.f0) = some (kl x.f0) := keyOf_int_mk Tryd.underlying3 (I64.to_wf hxw)
      have HTK := Aside0.mk htk
      clear htk
      have HSTEP := Aside0.mk hstep
      clear hstep
      have HALL := Aside0.mk hall
      clear hall
      have HKEY := Aside0.mk hkey
      clear hkey
      have HXW := Aside0.mk hxw
      clear hxw
      go_wp2_with (at_lookup; refine wpList_lookup_own_ok_int _ rfl _ _ 60 rfl 3 3 .i64 law3 Tryd.underlying60 Tryd.underlying3 (zero3 _) w.heap.size n_ D rfl (HM.out.alloc _) _ _ rfl HKEY.out ?_; intro c1 hat hwc)
      refine (isEvent_c x _).mono ?_
      rintro e w1 ⟨rfl, hb1⟩
      have hbx : w1.heap[wr.heap.size]? = some (o44 x) := blk_below hb1 (blk_new _ _)
      have hB1 := below_step (below_alloc HB.out (o44 x)) hb1
      have hR1 := Kd.R_below (Kd.R_alloc HR.out (o44 x)) hb1
      have hM1 := om_below (HM.out.alloc (o44 x)) hb1
      have hszw : wr.heap.size < w1.heap.size := blk_lt hbx
      have hwr : w.heap.size < wr.heap.size := HM.out.lt
      have hA1 := pw_cell_below hB1 HA.out
      have hS1 := pw_cell_below hB1 HS.out
      clear q0 q1 q2 q3 q4 q5 q6 q7 hb1 HB HR HM
      obtain ⟨b0, b1, b2, b3, b4, b5, b6, b7⟩ := cells44 hbx
      obtain ⟨hhas, hatk⟩ := HREP.out.2 x.f0
      have hc1 : ∀ k_ : Nat, undr st x.f0 = some k_ → c1 = (k_ : Int) := fun k_ hu => dv_inj (hat.symm.trans (hatk k_ hu))
      rw [hhas]
      have HBX := Aside0.mk hbx
      clear hbx
      have HB1 := Aside0.mk hB1
      clear hB1
      have HR1 := Aside0.mk hR1
      clear hR1
      have HM1 := Aside0.mk hM1
      clear hM1
      have HC1 := Aside0.mk hc1
      clear hc1
      clear hhas hatk hat hwc
      cases hev : isEv x
      · have hr := HALL.out 1 (rstep_bad st k x hev)
        have HR := Aside0.mk hr
        clear hr
        clear hev
        go_wp2_with fail
        refine (at_c (k : Int) aA _).mono ?_
        rintro e w2 ⟨gv, rfl, hv, hb2⟩
        go_wp2
        go_ret2
        exact ⟨.inr ⟨1, gv, k, HR.out, rfl, .inl rfl, by simpa using hv⟩, below_step HB1.out hb2⟩
      · cases hu : undr st x.f0 with
        | none =>
          rw [Option.isSome_none]
          cases t : x.f1
          · have hr := HALL.out 5 (rstep_none st k x hev t hu)
            rw [t] at b1
            have HR := Aside0.mk hr
            clear hr
            clear hev hu
            go_wp2_with fail
            refine (at_c (k : Int) aS _).mono ?_
            rintro e w2 ⟨gv, rfl, hv, hb2⟩
            go_wp2
            go_ret2
            exact ⟨.inr ⟨5, gv, k, HR.out, rfl, .inr rfl, by simpa using hv⟩, below_step HB1.out hb2⟩
          · have hr := HSTEP.out.trans (rstep_new st k x hev t hu)
            have hrp := rep_put HREP.out x k hu
            rw [t] at b1
            have hoff : some w.heap.size ≠ some wr.heap.size ∨ True := .inr trivial
            have HR := Aside0.mk hr
            clear hr
            have HRP := Aside0.mk hrp
            clear hrp
            have HU := Aside0.mk hu
            clear hu
            clear hev hoff
            go_wp2_with (first | (at_mapUpdate; refine wpList_mapUpdate_own _ rfl _ _ _ 60 rfl 3 3 law3 Tryd.underlying60 _ w.heap.size n_ D rfl HM1.out (by unfold maxLen; omega) _ _ _ rfl rfl HKEY.out _ [] (plainElem_int Tryd.underlying3 (WalkArith.wf_i64 (by omega))) ?_; intro w2 hown2 hgrow2; have hbx2 := blk_grownBy hgrow2 (by simp; omega) HBX.out; obtain ⟨d0, d1, d2, d3, d4, d5, d6, d7⟩ := cells44 hbx2; have HR2 := Aside0.mk (R_other (by rfl) HR1.out hgrow2 (fun k hk he => om_ne HM1.out HR1.out (by rw [hk, he]))); have HB2 := Aside0.mk (bel_grown HB1.out hgrow2 (fun k hk => by cases hk; exact Nat.le_refl _) HB1.out.size); have HM2 := Aside0.mk hown2; clear hown2 hgrow2 hbx2) | ((with_reducible refine gate_builtin (b := .append) (xs := #[.tmp 67, .tmp 74]) rfl ?_); at_builtin; refine Kd.R_append k40 (w0 := w) w.heap.size rfl (.tmp 67) (.tmp 74) 23 40 _ _ rfl Tryd.underlying23 info40 rfl (by decide) (by first | omega | (simp only [List.length_append, List.length_cons, List.length_nil]; omega)) (.slice A1 st.length n1) (st) (newRow x k) (c40 ⟨x.f0, x.f2, ⟨0, 0⟩, (k : Int), 0, false⟩) (fun _ => True) (fun _ => False) rfl (by first | (go_simp; done) | (go_simp; rfl)) (k40_mkM _ _ _ _) (fun _ hk => hk.elim) (fun _ _ => trivial) HR2.out HB2.out (below_size HB2.out) (by first | omega | (simp only [List.length_append, List.length_cons, List.length_nil]; omega)) ?_; intro v3 w3 ho hb hg hat))
            have HR3 := Aside0.mk ho
            have HB3 := Aside0.mk hb
            have HM3 := Aside0.mk (om_blk HM2.out (by
              have h9 := hg.block w.heap.size (by have := HM2.out.lt; simp; omega) (om_ne HM2.out HR2.out)
              exact h9))
            clear ho hb hg hat
            go_roundw
            case rel => exact ⟨k + 1, n_ + 1, _, _, by omega, by go_num, by omega, HR.out, HR3.out, HM3.out, HRP.out, HB3.out⟩
            case measure => simp [intOf]; omega
        | some k_ =>
          rw [Option.isSome_some]
          obtain rfl := HC1.out k_ hu
          obtain ⟨r, hrk, hr0, hr5, hkl_⟩ := undr_row hu
          cases t : x.f1
          · have hkl2 := hkl_
            have hr := HSTEP.out.trans (rstep_end st k k_ x r hev t hu hrk)
            have hrp := rep_del (inv_of HST.out) HREP.out x k k_ r hu hrk hr0 hr5
            have hxf : x.f1 = false := t
            obtain ⟨g, cap, hv, _, _, _⟩ := Kd.R_form HR1.out (by omega)
            obtain ⟨rfl, _, rfl⟩ : A1 = some ⟨g, 0, none⟩ ∧ True ∧ n1 = cap := by
              injection hv with e1 _ e3
              exact ⟨e1, trivial, e3⟩
            have hki : (k_ : Int) < (st.length : Int) := by omega
            have hk0 : (0 : Int) ≤ (k_ : Int) := by omega
            rw [t] at b1
            have HR := Aside0.mk hr
            clear hr
            have HRP := Aside0.mk hrp
            clear hrp
            have HRK := Aside0.mk hrk
            clear hrk
            clear hev hu hv hr0 hr5 HC1
            go_wp2_with (at_delete; refine wpList_delete_own _ rfl _ _ 60 3 rfl 3 law3 Tryd.underlying60 _ w.heap.size n_ D rfl HM1.out _ _ rfl HKEY.out ?_; intro w2 hown2 hturn2; have hgrow2 := hturn2.grown; have HXZ := Aside0.mk (blk_grownBy hgrow2 (by simp; omega) HBX.out); have HRZ := Aside0.mk (R_other (by rfl) HR1.out hgrow2 (fun k hk he => om_ne HM1.out HR1.out (by rw [hk, he]))); have HBZ := Aside0.mk (bel_grown HB1.out hgrow2 (fun k hk => by cases hk; exact Nat.le_refl _) HB1.out.size); have HMZ := Aside0.mk hown2; clear hown2 hturn2 hgrow2)
            obtain ⟨cg, hcg⟩ := Kd.R_typed HRZ.out g (by simp [Value.ownBlock])
            have hne : wr.heap.size ≠ g := by
              intro he
              have h9 := HXZ.out
              rw [he, hcg] at h9
              simp at h9
            have HXG := Aside0.mk (show some wr.heap.size ≠ some g from fun e => hne (Option.some.inj e))
            have HKL := Aside0.mk hkl_
            clear hcg hne b0 b1 b2 b3 b4 b5 b6 b7 hA1 hS1 hmm t hxf
            refine start_ (n := 15) (S := fun w' => True) (ds := []) #[false, false, false, false, false, false, false, false, false, false, false, false, false, false, false] (by kernel_rfl) rfl rfl trivial (fun hHeld => ?_)
            refine with_tabW rows.tab9 rows.bits9 (fun HT_ HW_ => ?_)
            have HBr := Aside0.mk (below_drew HBZ.out)
            have RW := Aside0.mk (row_mix HRZ.out HKL.out HRK.out x k)
            have OM := Aside0.mk (World.ownsMap.drew HMZ.out)
            have BX := HXZ
            refine inv_at [0, 1, 2, 3, 4, 5, 6, 7, 8, 9, 10, 11, 12, 13, 14] (fun a0_ b a w' => a = putSel a0_ b [(0, 32, .pointer (some ⟨g, k_ * 10, none⟩)), (1, 33, .pointer (some ⟨g, k_ * 10, none⟩)), (2, 34, .pointer (some ⟨g, k_ * 10, none⟩)), (3, 35, .int .i64 (k : Int)), (4, 36, .pointer (some ⟨wr.heap.size, 6, none⟩)), (5, 37, .agg #[.int .i64 x.f3.f0, .int .i64 x.f3.f1]), (6, 38, .pointer (some ⟨g, k_ * 10, none⟩)), (7, 39, .pointer (some ⟨g, k_ * 10 + 8, none⟩)), (9, 40, .pointer (some ⟨g, k_ * 10, none⟩)), (10, 41, .pointer (some ⟨g, k_ * 10 + 9, none⟩)), (12, 42, .pointer (some ⟨g, k_ * 10, none⟩)), (13, 43, .pointer (some ⟨g, k_ * 10 + 5, none⟩))] ∧ (Below w.heap.size w w') ∧ (Kd.R k40 40 w' w.heap.size (fun _ => True) (.slice (some ⟨g, 0, none⟩) st.length n1) (st.set k_ (mixR (b 8) (b 11) (b 14) r x k))) ∧ (w'.ownsMap (H := Unit) Tryd.prog 3 (plainElem Tryd.prog 3) w.heap.size n_ (D.del (kl x.f0))) ∧ (w'.heap[wr.heap.size]? = some (o44 x))) HT_.out HW_.out (by kernel_rfl) (by kernel_rfl) ?_ ?_ ?_
            · exact ⟨by simp only [putSel, Bool.false_eq_true, if_false], HBr.out, RW.out, OM.out, BX.out⟩
            · skip
              clear BX HBr OM RW
              refine steps_cons ?_ ?_
              · rintro b a w' ⟨ha, Q_HBr, Q_RW, Q_OM, Q_BX⟩ hb_ hon hoff
                refine ⟨_, rfl, fun K hK => ?_⟩
                have e10 : a.tmps[10]? = some (.pointer (some ⟨g, k_ * 10, none⟩)) := by rw [ha]; exact (putSel_off rfl).trans rfl
                replace ha := Aside0.mk ha
                have HBr := Aside0.mk Q_HBr
                have RW := Aside0.mk Q_RW
                have OM := Aside0.mk Q_OM
                have BX := Aside0.mk Q_BX
                refine value_ (w1 := w') (v := .pointer (some ⟨g, k_ * 10, none⟩)) ?cA ?cB ?_ ?_
                case cA => rfl
                case cB => rfl
                · go_simp
                  (try simp only [i64_w])
                  try rfl
                refine hK.out _ _ ⟨(by rw [ha.out]; exact putSel_upk 0 hb_ rfl rfl rfl), Q_HBr, Q_RW, Q_OM, Q_BX⟩
              refine steps_cons ?_ ?_
              · rintro b a w' ⟨ha, Q_HBr, Q_RW, Q_OM, Q_BX⟩ hb_ hon hoff
                refine ⟨_, rfl, fun K hK => ?_⟩
                have e10 : a.tmps[10]? = some (.pointer (some ⟨g, k_ * 10, none⟩)) := by rw [ha]; exact (putSel_off rfl).trans rfl
                replace ha := Aside0.mk ha
                have HBr := Aside0.mk Q_HBr
                have RW := Aside0.mk Q_RW
                have OM := Aside0.mk Q_OM
                have BX := Aside0.mk Q_BX
                refine value_ (w1 := w') (v := .pointer (some ⟨g, k_ * 10, none⟩)) ?cA ?cB ?_ ?_
                case cA => rfl
                case cB => rfl
                · go_simp
                  (try simp only [i64_w])
                  try rfl
                refine hK.out _ _ ⟨(by rw [ha.out]; exact putSel_upk 1 hb_ rfl rfl rfl), Q_HBr, Q_RW, Q_OM, Q_BX⟩
              refine steps_cons ?_ ?_
              · rintro b a w' ⟨ha, Q_HBr, Q_RW, Q_OM, Q_BX⟩ hb_ hon hoff
                refine ⟨_, rfl, fun K hK => ?_⟩
                have e10 : a.tmps[10]? = some (.pointer (some ⟨g, k_ * 10, none⟩)) := by rw [ha]; exact (putSel_off rfl).trans rfl
                replace ha := Aside0.mk ha
                have HBr := Aside0.mk Q_HBr
                have RW := Aside0.mk Q_RW
                have OM := Aside0.mk Q_OM
                have BX := Aside0.mk Q_BX
                refine value_ (w1 := w') (v := .pointer (some ⟨g, k_ * 10, none⟩)) ?cA ?cB ?_ ?_
                case cA => rfl
                case cB => rfl
                · go_simp
                  (try simp only [i64_w])
                  try rfl
                refine hK.out _ _ ⟨(by rw [ha.out]; exact putSel_upk 2 hb_ rfl rfl rfl), Q_HBr, Q_RW, Q_OM, Q_BX⟩
              refine steps_cons ?_ ?_
              · rintro b a w' ⟨ha, Q_HBr, Q_RW, Q_OM, Q_BX⟩ hb_ hon hoff
                refine ⟨_, rfl, fun K hK => ?_⟩
                have e6 : a.tmps[6]? = some (.int .i64 (k : Int)) := by rw [ha]; exact (putSel_off rfl).trans rfl
                replace ha := Aside0.mk ha
                have HBr := Aside0.mk Q_HBr
                have RW := Aside0.mk Q_RW
                have OM := Aside0.mk Q_OM
                have BX := Aside0.mk Q_BX
                refine value_ (w1 := w') (v := .int .i64 (k : Int)) ?cA ?cB ?_ ?_
                case cA => rfl
                case cB => rfl
                · go_simp
                  (try simp only [i64_w])
                  try rfl
                refine hK.out _ _ ⟨(by rw [ha.out]; exact putSel_upk 3 hb_ rfl rfl rfl), Q_HBr, Q_RW, Q_OM, Q_BX⟩
              refine steps_cons ?_ ?_
              · rintro b a w' ⟨ha, Q_HBr, Q_RW, Q_OM, Q_BX⟩ hb_ hon hoff
                refine ⟨_, rfl, fun K hK => ?_⟩
                have e7 : a.tmps[7]? = some (.pointer (some ⟨wr.heap.size, 0, none⟩)) := by rw [ha]; exact (putSel_off rfl).trans rfl
                replace ha := Aside0.mk ha
                have HBr := Aside0.mk Q_HBr
                have RW := Aside0.mk Q_RW
                have OM := Aside0.mk Q_OM
                have BX := Aside0.mk Q_BX
                refine value_ (w1 := w') (v := .pointer (some ⟨wr.heap.size, 6, none⟩)) ?cA ?cB ?_ ?_
                case cA => rfl
                case cB => rfl
                · go_simp
                  (try simp only [i64_w])
                  try rfl
                refine hK.out _ _ ⟨(by rw [ha.out]; exact putSel_upk 4 hb_ rfl rfl rfl), Q_HBr, Q_RW, Q_OM, Q_BX⟩
              refine steps_cons ?_ ?_
              · rintro b a w' ⟨ha, Q_HBr, Q_RW, Q_OM, Q_BX⟩ hb_ hon hoff
                refine ⟨_, rfl, fun K hK => ?_⟩
                have e36 : a.tmps[36]? = some (.pointer (some ⟨wr.heap.size, 6, none⟩)) := by rw [ha]; exact putSel_on (e := (4, 36, .pointer (some ⟨wr.heap.size, 6, none⟩))) 4 rfl rfl (hon 4 (by kernel_rfl)) rfl
                replace ha := Aside0.mk ha
                have HBr := Aside0.mk Q_HBr
                have RW := Aside0.mk Q_RW
                have OM := Aside0.mk Q_OM
                have BX := Aside0.mk Q_BX
                have z6_ : w'.cell? ⟨wr.heap.size, 6, none⟩ = some (.int .i64 x.f3.f0) := (blk_cell (BX.out) 6).trans rfl
                have z7_ : w'.cell? ⟨wr.heap.size, 7, none⟩ = some (.int .i64 x.f3.f1) := (blk_cell (BX.out) 7).trans rfl
                refine value_ (w1 := w') (v := .agg #[.int .i64 x.f3.f0, .int .i64 x.f3.f1]) ?cA ?cB ?_ ?_
                case cA => rfl
                case cB => rfl
                · go_simp
                  (try simp only [i64_w])
                  try rfl
                refine hK.out _ _ ⟨(by rw [ha.out]; exact putSel_upk 5 hb_ rfl rfl rfl), Q_HBr, Q_RW, Q_OM, Q_BX⟩
              refine steps_cons ?_ ?_
              · rintro b a w' ⟨ha, Q_HBr, Q_RW, Q_OM, Q_BX⟩ hb_ hon hoff
                refine ⟨_, rfl, fun K hK => ?_⟩
                have e32 : a.tmps[32]? = some (.pointer (some ⟨g, k_ * 10, none⟩)) := by rw [ha]; exact putSel_on (e := (0, 32, .pointer (some ⟨g, k_ * 10, none⟩))) 0 rfl rfl (hon 0 (by kernel_rfl)) rfl
                replace ha := Aside0.mk ha
                have HBr := Aside0.mk Q_HBr
                have RW := Aside0.mk Q_RW
                have OM := Aside0.mk Q_OM
                have BX := Aside0.mk Q_BX
                refine value_ (w1 := w') (v := .pointer (some ⟨g, k_ * 10, none⟩)) ?cA ?cB ?_ ?_
                case cA => rfl
                case cB => rfl
                · go_simp
                  (try simp only [i64_w])
                  try rfl
                refine hK.out _ _ ⟨(by rw [ha.out]; exact putSel_upk 6 hb_ rfl rfl rfl), Q_HBr, Q_RW, Q_OM, Q_BX⟩
              refine steps_cons ?_ ?_
              · rintro b a w' ⟨ha, Q_HBr, Q_RW, Q_OM, Q_BX⟩ hb_ hon hoff
                refine ⟨_, rfl, fun K hK => ?_⟩
                have e38 : a.tmps[38]? = some (.pointer (some ⟨g, k_ * 10, none⟩)) := by rw [ha]; exact putSel_on (e := (6, 38, .pointer (some ⟨g, k_ * 10, none⟩))) 6 rfl rfl (hon 6 (by kernel_rfl)) rfl
                replace ha := Aside0.mk ha
                have HBr := Aside0.mk Q_HBr
                have RW := Aside0.mk Q_RW
                have OM := Aside0.mk Q_OM
                have BX := Aside0.mk Q_BX
                refine value_ (w1 := w') (v := .pointer (some ⟨g, k_ * 10 + 8, none⟩)) ?cA ?cB ?_ ?_
                case cA => rfl
                case cB => rfl
                · go_simp
                  (try simp only [i64_w])
                  try rfl
                refine hK.out _ _ ⟨(by rw [ha.out]; exact putSel_upk 7 hb_ rfl rfl rfl), Q_HBr, Q_RW, Q_OM, Q_BX⟩
              refine steps_cons ?_ ?_
              · rintro b a w' ⟨ha, Q_HBr, Q_RW, Q_OM, Q_BX⟩ hb_ hon hoff
                refine ⟨_, rfl, fun K hK => ?_⟩
                have e39 : a.tmps[39]? = some (.pointer (some ⟨g, k_ * 10 + 8, none⟩)) := by rw [ha]; exact putSel_on (e := (7, 39, .pointer (some ⟨g, k_ * 10 + 8, none⟩))) 7 rfl rfl (hon 7 (by kernel_rfl)) rfl
                have e35 : a.tmps[35]? = some (.int .i64 (k : Int)) := by rw [ha]; exact putSel_on (e := (3, 35, .int .i64 (k : Int))) 3 rfl rfl (hon 3 (by kernel_rfl)) rfl
                replace ha := Aside0.mk ha
                have HBr := Aside0.mk Q_HBr
                have RW := Aside0.mk Q_RW
                have OM := Aside0.mk Q_OM
                have BX := Aside0.mk Q_BX
                refine R_store_step k40 (w0 := w) w.heap.size (by rfl) rfl 3 39 (.tmp 35) rfl 40 (g := g) (n := st.length) (cap := n1) k_ 8 (st.set k_ (mixR (b 8) (b 11) (b 14) r x k)) (mixR (b 8) (b 11) (b 14) r x k) (mixR true (b 11) (b 14) r x k) (.int .i64 (k : Int)) [.int .i64 (k : Int)] (c40 (mixR (b 8) (b 11) (b 14) r x k)) e39 rfl (by first | (simp [Act.eval, Array.getD_eq_getD_getElem?, e35]; done) | (go_simp; done)) rfl (by kernel_rfl) (by simp [Value.oneCell']) RW.out HKL.out (by rw [List.getElem?_set_self HKL.out]) (fun cs h => k40_openM h) (Nat.le_of_ble_eq_true rfl) (by exact k40_mkM _ _ _ _) HBr.out ?_
                intro w1 hR1 hB1 hg1
                refine hK.out _ _ ⟨(by rw [ha.out]; exact putSel_none (v := undef) rfl), hB1, (by rw [List.set_set] at hR1; exact hR1), (om_blk OM.out (hg1.block _ OM.out.lt (om_ne OM.out RW.out))), (blk_grownBy hg1 (HXG.out) BX.out)⟩
              refine steps_cons ?_ ?_
              · rintro b a w' ⟨ha, Q_HBr, Q_RW, Q_OM, Q_BX⟩ hb_ hon hoff
                refine ⟨_, rfl, fun K hK => ?_⟩
                have e33 : a.tmps[33]? = some (.pointer (some ⟨g, k_ * 10, none⟩)) := by rw [ha]; exact putSel_on (e := (1, 33, .pointer (some ⟨g, k_ * 10, none⟩))) 1 rfl rfl (hon 1 (by kernel_rfl)) rfl
                replace ha := Aside0.mk ha
                have HBr := Aside0.mk Q_HBr
                have RW := Aside0.mk Q_RW
                have OM := Aside0.mk Q_OM
                have BX := Aside0.mk Q_BX
                refine value_ (w1 := w') (v := .pointer (some ⟨g, k_ * 10, none⟩)) ?cA ?cB ?_ ?_
                case cA => rfl
                case cB => rfl
                · go_simp
                  (try simp only [i64_w])
                  try rfl
                refine hK.out _ _ ⟨(by rw [ha.out]; exact putSel_upk 8 hb_ rfl rfl rfl), Q_HBr, Q_RW, Q_OM, Q_BX⟩
              refine steps_cons ?_ ?_
              · rintro b a w' ⟨ha, Q_HBr, Q_RW, Q_OM, Q_BX⟩ hb_ hon hoff
                refine ⟨_, rfl, fun K hK => ?_⟩
                have e40 : a.tmps[40]? = some (.pointer (some ⟨g, k_ * 10, none⟩)) := by rw [ha]; exact putSel_on (e := (9, 40, .pointer (some ⟨g, k_ * 10, none⟩))) 8 rfl rfl (hon 9 (by kernel_rfl)) rfl
                replace ha := Aside0.mk ha
                have HBr := Aside0.mk Q_HBr
                have RW := Aside0.mk Q_RW
                have OM := Aside0.mk Q_OM
                have BX := Aside0.mk Q_BX
                refine value_ (w1 := w') (v := .pointer (some ⟨g, k_ * 10 + 9, none⟩)) ?cA ?cB ?_ ?_
                case cA => rfl
                case cB => rfl
                · go_simp
                  (try simp only [i64_w])
                  try rfl
                refine hK.out _ _ ⟨(by rw [ha.out]; exact putSel_upk 9 hb_ rfl rfl rfl), Q_HBr, Q_RW, Q_OM, Q_BX⟩
              refine steps_cons ?_ ?_
              · rintro b a w' ⟨ha, Q_HBr, Q_RW, Q_OM, Q_BX⟩ hb_ hon hoff
                refine ⟨_, rfl, fun K hK => ?_⟩
                have e41 : a.tmps[41]? = some (.pointer (some ⟨g, k_ * 10 + 9, none⟩)) := by rw [ha]; exact putSel_on (e := (10, 41, .pointer (some ⟨g, k_ * 10 + 9, none⟩))) 9 rfl rfl (hon 10 (by kernel_rfl)) rfl
                replace ha := Aside0.mk ha
                have HBr := Aside0.mk Q_HBr
                have RW := Aside0.mk Q_RW
                have OM := Aside0.mk Q_OM
                have BX := Aside0.mk Q_BX
                refine R_store_step k40 (w0 := w) w.heap.size (by rfl) rfl 4 41 (.const (.bool true)) rfl 40 (g := g) (n := st.length) (cap := n1) k_ 9 (st.set k_ (mixR (b 8) (b 11) (b 14) r x k)) (mixR (b 8) (b 11) (b 14) r x k) (mixR (b 8) true (b 14) r x k) (.bool true) [.bool true] (c40 (mixR (b 8) (b 11) (b 14) r x k)) e41 rfl rfl rfl (by kernel_rfl) (by simp [Value.oneCell']) RW.out HKL.out (by rw [List.getElem?_set_self HKL.out]) (fun cs h => k40_openM h) (Nat.le_of_ble_eq_true rfl) (by exact k40_mkM _ _ _ _) HBr.out ?_
                intro w1 hR1 hB1 hg1
                refine hK.out _ _ ⟨(by rw [ha.out]; exact putSel_none (v := undef) rfl), hB1, (by rw [List.set_set] at hR1; exact hR1), (om_blk OM.out (hg1.block _ OM.out.lt (om_ne OM.out RW.out))), (blk_grownBy hg1 (HXG.out) BX.out)⟩
              refine steps_cons ?_ ?_
              · rintro b a w' ⟨ha, Q_HBr, Q_RW, Q_OM, Q_BX⟩ hb_ hon hoff
                refine ⟨_, rfl, fun K hK => ?_⟩
                have e34 : a.tmps[34]? = some (.pointer (some ⟨g, k_ * 10, none⟩)) := by rw [ha]; exact putSel_on (e := (2, 34, .pointer (some ⟨g, k_ * 10, none⟩))) 2 rfl rfl (hon 2 (by kernel_rfl)) rfl
                replace ha := Aside0.mk ha
                have HBr := Aside0.mk Q_HBr
                have RW := Aside0.mk Q_RW
                have OM := Aside0.mk Q_OM
                have BX := Aside0.mk Q_BX
                refine value_ (w1 := w') (v := .pointer (some ⟨g, k_ * 10, none⟩)) ?cA ?cB ?_ ?_
                case cA => rfl
                case cB => rfl
                · go_simp
                  (try simp only [i64_w])
                  try rfl
                refine hK.out _ _ ⟨(by rw [ha.out]; exact putSel_upk 10 hb_ rfl rfl rfl), Q_HBr, Q_RW, Q_OM, Q_BX⟩
              refine steps_cons ?_ ?_
              · rintro b a w' ⟨ha, Q_HBr, Q_RW, Q_OM, Q_BX⟩ hb_ hon hoff
                refine ⟨_, rfl, fun K hK => ?_⟩
                have e42 : a.tmps[42]? = some (.pointer (some ⟨g, k_ * 10, none⟩)) := by rw [ha]; exact putSel_on (e := (12, 42, .pointer (some ⟨g, k_ * 10, none⟩))) 10 rfl rfl (hon 12 (by kernel_rfl)) rfl
                replace ha := Aside0.mk ha
                have HBr := Aside0.mk Q_HBr
                have RW := Aside0.mk Q_RW
                have OM := Aside0.mk Q_OM
                have BX := Aside0.mk Q_BX
                refine value_ (w1 := w') (v := .pointer (some ⟨g, k_ * 10 + 5, none⟩)) ?cA ?cB ?_ ?_
                case cA => rfl
                case cB => rfl
                · go_simp
                  (try simp only [i64_w])
                  try rfl
                refine hK.out _ _ ⟨(by rw [ha.out]; exact putSel_upk 11 hb_ rfl rfl rfl), Q_HBr, Q_RW, Q_OM, Q_BX⟩
              refine steps_cons ?_ ?_
              · rintro b a w' ⟨ha, Q_HBr, Q_RW, Q_OM, Q_BX⟩ hb_ hon hoff
                refine ⟨_, rfl, fun K hK => ?_⟩
                have e43 : a.tmps[43]? = some (.pointer (some ⟨g, k_ * 10 + 5, none⟩)) := by rw [ha]; exact putSel_on (e := (13, 43, .pointer (some ⟨g, k_ * 10 + 5, none⟩))) 11 rfl rfl (hon 13 (by kernel_rfl)) rfl
                have e37 : a.tmps[37]? = some (.agg #[.int .i64 x.f3.f0, .int .i64 x.f3.f1]) := by rw [ha]; exact putSel_on (e := (5, 37, .agg #[.int .i64 x.f3.f0, .int .i64 x.f3.f1])) 5 rfl rfl (hon 5 (by kernel_rfl)) rfl
                replace ha := Aside0.mk ha
                have HBr := Aside0.mk Q_HBr
                have RW := Aside0.mk Q_RW
                have OM := Aside0.mk Q_OM
                have BX := Aside0.mk Q_BX
                refine R_store_step k40 (w0 := w) w.heap.size (by rfl) rfl 38 43 (.tmp 37) rfl 40 (g := g) (n := st.length) (cap := n1) k_ 5 (st.set k_ (mixR (b 8) (b 11) (b 14) r x k)) (mixR (b 8) (b 11) (b 14) r x k) (mixR (b 8) (b 11) true r x k) (.agg #[.int .i64 x.f3.f0, .int .i64 x.f3.f1]) [.int .i64 x.f3.f0, .int .i64 x.f3.f1] (c40 (mixR (b 8) (b 11) (b 14) r x k)) e43 rfl (by first | (simp [Act.eval, Array.getD_eq_getD_getElem?, e37]; done) | (go_simp; done)) rfl (by kernel_rfl) (by simp [Value.oneCell']) RW.out HKL.out (by rw [List.getElem?_set_self HKL.out]) (fun cs h => k40_openM h) (Nat.le_of_ble_eq_true rfl) (by exact k40_mkM _ _ _ _) HBr.out ?_
                intro w1 hR1 hB1 hg1
                refine hK.out _ _ ⟨(by rw [ha.out]; exact putSel_none (v := undef) rfl), hB1, (by rw [List.set_set] at hR1; exact hR1), (om_blk OM.out (hg1.block _ OM.out.lt (om_ne OM.out RW.out))), (blk_grownBy hg1 (HXG.out) BX.out)⟩
              exact steps_nil
            rintro b a w' hall ⟨ha, Q_HBr, Q_RW, Q_OM, Q_BX⟩
            clear BX HBr OM RW
            have hb0_ := hall 0 (by kernel_rfl)
            have hb1_ := hall 1 (by kernel_rfl)
            have hb2_ := hall 2 (by kernel_rfl)
            have hb3_ := hall 3 (by kernel_rfl)
            have hb4_ := hall 4 (by kernel_rfl)
            have hb5_ := hall 5 (by kernel_rfl)
            have hb6_ := hall 6 (by kernel_rfl)
            have hb7_ := hall 7 (by kernel_rfl)
            have hb8_ := hall 8 (by kernel_rfl)
            have hb9_ := hall 9 (by kernel_rfl)
            have hb10_ := hall 10 (by kernel_rfl)
            have hb11_ := hall 11 (by kernel_rfl)
            have hb12_ := hall 12 (by kernel_rfl)
            have hb13_ := hall 13 (by kernel_rfl)
            have hb14_ := hall 14 (by kernel_rfl)
            subst ha
            simp only [putSel, hb0_, hb1_, hb2_, hb3_, hb4_, hb5_, hb6_, hb7_, hb8_, hb9_, hb10_, hb11_, hb12_, hb13_, hb14_, if_true, Act.put, List.setIfInBounds_toArray, List.set_cons_zero, List.set_cons_succ]
            have HBr := Aside0.mk Q_HBr
            clear Q_HBr
            have RW := Aside0.mk Q_RW
            clear Q_RW
            have OM := Aside0.mk Q_OM
            clear Q_OM
            have BX := Aside0.mk Q_BX
            clear Q_BX
            have RW1 := RW.out
            rw [hb8_, hb11_, hb14_, mixR_all] at RW1
            have HRW := Aside0.mk RW1
            have hln : (st.set k_ (endRow r x k)).length = st.length := List.length_set
            clear RW1 RW HT_ HW_ hHeld hall hb0_ hb1_ hb2_ hb3_ hb4_ hb5_ hb6_ hb7_ hb8_ hb9_ hb10_ hb11_ hb12_ hb13_ hb14_
            go_wp2
            go_roundw
            case rel => exact ⟨k + 1, n_, _, _, by omega, by go_num, by omega, HR.out, HRW.out, OM.out, HRP.out, HBr.out⟩
            case measure => simp [intOf]; omega
          · have hr := HALL.out 5 (rstep_twice st k k_ x hev t hu)
            rw [t] at b1
            have HR := Aside0.mk hr
            clear hr
            clear hev hu
            go_wp2_with fail
            refine (at_c (k : Int) aS _).mono ?_
            rintro e w2 ⟨gv, rfl, hv, hb2⟩
            go_wp2
            go_ret2
            exact ⟨.inr ⟨5, gv, k, HR.out, rfl, .inr rfl, by simpa using hv⟩, below_step HB1.out hb2⟩
    · go_wp2
      go_ret2
      have hk' : k = es.length := by omega
      subst hk'
      have g1 := HST.out
      rw [List.take_length] at g1
      exact ⟨.inl ⟨st, _, g1, rfl, HR.out⟩, HB.out⟩
end Go.Proofs.YtpejloegidailaaDoor.An
