/- The document's Rows. -/
import Derived.Test.YtpejloegidailaaDoorAnL
namespace Go.Proofs.YtpejloegidailaaDoor.An
open Go.RowKit Go.Proofs.YtpejloegidailaaDoorW.PrintWords Go.Proofs.YtpejloegidailaaDoorW.PrintLast Go.Proofs.YtpejloegidailaaDoorW.PrintMore Go.Proofs.YtpejloegidailaaDoor.X
set_option linter.unusedVariables false
set_option linter.unusedSimpArgs false
attribute [local go_sem high] eqA38 eqA36 eqA44

section
variable {ops : Array Oper} {o : Oper} {rest : List Oper} {a : Act} {Q : Exit → Act → World → Prop}
/-- A store into a row of one's own. -/
theorem row_store {w0 W : World} (hN : o.dst = none) (hgd : o.guard = none) (t : TypeId) (p x : Operand) (ho : o.op = .store t p x) {g cap o' : Nat} (k j : Nat) (st : List Rw) (r r' : Rw) (u : Value) (seg : List Value)
    (haddr : a.eval p = .pointer (some ⟨g, o', none⟩)) (hoff : o' = k * 10 + j) (hx : a.eval x = u) (hu : u.cells.toList = seg) (ht : (Tryd.prog.info? t).map (·.size) = some seg.length) (h1 : ∀ q ∈ seg, q.oneCell' = true)
    (HO : Kd.R k40 40 W w0.heap.size (fun _ => True) (.slice (some ⟨g, 0, none⟩) st.length cap) st) (hk : k < st.length) (hr : st[k]? = some r) (hj : j + seg.length ≤ 10) (hM : (c40 r).take j ++ seg ++ (c40 r).drop (j + seg.length) = c40 r') (HB : Below w0.heap.size w0 W)
    (h : ∀ w1, Kd.R k40 40 w1 w0.heap.size (fun _ => True) (.slice (some ⟨g, 0, none⟩) st.length cap) (st.set k r') → Below w0.heap.size w0 w1 → W.grownBy w1 (some g) → wpList Tryd.prog ops Q rest a w1) : wpList Tryd.prog ops Q (o :: rest) a W := by
  obtain ⟨c, hcl, hMc, hcc, _⟩ := Kd.R_elem HO z40 (k : Int) (by omega) (by omega)
  have hg : st.getD (k : Int).toNat z40 = r := by simp [List.getD, hr]
  rw [hg] at hMc
  obtain rfl := k40_openM hMc
  refine Kd.R_store k40 (w0 := w0) w0.heap.size hN hgd t p x ho 40 (k : Int) j st r' u seg (c40 r) (fun _ => True) (fun _ => False) haddr (by show o' = (k : Int).toNat * 10 + j; rw [Int.toNat_natCast]; exact hoff) hx hu ht h1 HO (by omega) (by omega) hcl hcc hj (by rw [hM]; exact k40_mkM _ _ _ _) (fun _ h => h.elim) HB (by simpa using h)
end
theorem len1 {w W : World} {g cap k : Nat} {st : List Rw} {r : Rw} (hk : k < st.length) (h : Kd.R k40 40 W w.heap.size (fun _ => True) (.slice (some ⟨g, 0, none⟩) st.length cap) (st.set k r)) : Kd.R k40 40 W w.heap.size (fun _ => True) (.slice (some ⟨g, 0, none⟩) (st.set k r).length cap) (st.set k r) := by rw [List.length_set]; exact h
theorem set_self {k : Nat} {st : List Rw} {r : Rw} (hk : k < st.length) : (st.set k r)[k]? = some r := List.getElem?_set_self hk
/-- What the document's Rows answers. -/
def RRes (w w' : World) (es : List Ev) (e : Ending) : Prop :=
  (∃ st v, rowsM es = .ok st ∧ e = .returned (.tuple #[v, .int .i64 0]) ∧ Kd.R k40 40 w' w.heap.size (fun _ => True) v st) ∨
  (∃ n : Nat, rowsM es = .error n ∧ e = .returned (.tuple #[.slice none 0 0, .int .i64 n]))
theorem isEv_t {x : Ev} (h : x.f1 = true) : isEv x = eqB38 x.f3 z38 := by unfold isEv; rw [h]; rfl
theorem isEv_f {x : Ev} (h : x.f1 = false) : isEv x = eqB36 x.f2 z36 := by unfold isEv; rw [h]; rfl
theorem undr_row2 {st : List Rw} {t : Int} {k : Nat} (h : undr st t = some k) : ∃ r, st[k]? = some r ∧ k < st.length := by
  obtain ⟨r, h1, _, _, h4⟩ := undr_row h
  exact ⟨r, h1, h4⟩
set_option maxHeartbeats 4000000 in
set_option maxRecDepth 100000 in
theorem rrows_c (A : Option Addr) (c : Nat) (es : List Ev) (w : World) (hE : Kd.C k44 w A es.length es) (hlim : es.length ≤ 1000000) :
    Calls Tryd.prog 16 #[.slice A es.length c] w fun e w' => RRes w w' es e ∧ Below w.heap.size w w' := by
  have h1 := Tryd.underlying44
  have h2 := Tryd.underlying36
  have h3 := Tryd.underlying38
  have h4 := Tryd.underlying40
  have hlen := Kd.C_max hE
  have HR0 := Aside0.mk (R_lit_alloc k40 40 (base := w.heap.size) w (Nat.le_refl _) (xs := []) (inner := []) (Reps.none _ _) (by simp))
  have HE := Aside0.mk hE
  clear hE
  go_enter Tryd.func16, Tryd.ntmps16
  go_wp2
  go_loopw [4, 5] (fun v i wr => ∃ (k : Nat) (v1 : Value) (st : List Rw), v1 = v ∧ k ≤ es.length ∧ i = .int .i64 k ∧ rowsM (es.take k) = .ok st ∧ Kd.R k40 40 wr w.heap.size (fun _ => True) v1 st ∧ Below w.heap.size w wr) (fun _ i _ => es.length - (intOf i).toNat)
  case atStart => exact ⟨0, _, [], rfl, Nat.zero_le _, rfl, rfl, HR0.out, below_alloc (Below.refl _ _) _⟩
  case round =>
    obtain ⟨k, v1, st, hv1, hkl, rfl, hst, hR, hb⟩ := hrel
    subst hv1
    clear HR0
    have hsl := rows_len hst
    have hsk : st.length ≤ k := by rw [List.length_take] at hsl; omega
    obtain ⟨A1, n1, rfl⟩ := Kd.R_slice hR
    have HST := Aside0.mk hst
    clear hst
    have HR := Aside0.mk hR
    clear hR
    have HB := Aside0.mk hb
    clear hb
    have HSL := Aside0.mk hsl
    clear hsl
    by_cases hlt : k < es.length
    · obtain ⟨ad, eA, q0, q1, q2, q3, q4, q5, q6, q7⟩ := at_T44 HE.out (k : Int) (by omega) (by omega)
      replace q0 := pw_cell_below HB.out q0
      replace q1 := pw_cell_below HB.out q1
      replace q2 := pw_cell_below HB.out q2
      replace q3 := pw_cell_below HB.out q3
      replace q4 := pw_cell_below HB.out q4
      replace q5 := pw_cell_below HB.out q5
      replace q6 := pw_cell_below HB.out q6
      replace q7 := pw_cell_below HB.out q7
      simp only [Int.toNat_natCast] at q0 q1 q2 q3 q4 q5 q6 q7
      cases eA
      obtain ⟨x, hx⟩ : ∃ x, x = rd_T44 es (k : Int) := ⟨_, rfl⟩
      have htk : es.take (k + 1) = es.take k ++ [x] := by rw [take_snoc es z44 k hlt, hx]; simp [rd_T44]
      rw [← hx] at q0 q1 q2 q3 q4 q5 q6 q7
      clear hx
      have hkb : k < 1000000 := by omega
      have hstep : rowsM (es.take (k + 1)) = rstep st k x := by
        rw [htk, rowsM_snoc _ _ HST.out, List.length_take, Nat.min_eq_left hkl]
      have hall : ∀ c, rstep st k x = .error c → rowsM es = .error c := fun c hc => by
        have := rowsM_err (es.take (k + 1)) (es.drop (k + 1)) (hstep.trans hc)
        rwa [List.take_append_drop] at this
      have HTK := Aside0.mk htk
      clear htk
      have HSTEP := Aside0.mk hstep
      clear hstep
      have HALL := Aside0.mk hall
      clear hall
      have hR1 := Kd.R_alloc HR.out (o44 x)
      have hB1 := below_alloc HB.out (o44 x)
      have hbx := blk_new wr (o44 x)
      have hC := (Kd.R_reads' hR1).2.2
      obtain ⟨b0, b1, b2, b3, b4, b5, b6, b7⟩ := cells44 hbx
      have HR1 := Aside0.mk hR1
      clear hR1
      have HB1 := Aside0.mk hB1
      clear hB1
      have HBX := Aside0.mk hbx
      clear hbx
      have HC := Aside0.mk hC
      clear hC
      clear HR HB
      go_wp2_with fail
      refine (under_c A1 n1 st x.f0 _ HC.out).mono ?_
      rintro e w1 ⟨rfl, hw1⟩
      obtain ⟨tb, htb⟩ : ∃ z, z = wr.heap.size := ⟨_, rfl⟩
      rw [← hw1] at HR1 HB1 HBX b0 b1 b2 b3 b4 b5 b6 b7
      rw [← htb] at HBX b0 b1 b2 b3 b4 b5 b6 b7 ⊢
      clear hw1 htb q0 q1 q2 q3 q4 q5 q6 q7 HC
      cases hev : isEv x
      · have hr := HALL.out 1 (rstep_bad st k x hev)
        have HR := Aside0.mk hr
        clear hr
        cases t : x.f1
        · rw [isEv_f t] at hev
          rw [t] at b1
          simp only [eqB36, z36] at hev
          go_wp2
          go_ret2
          exact ⟨.inr ⟨1, HR.out, rfl⟩, HB1.out⟩
        · rw [isEv_t t] at hev
          rw [t] at b1
          simp only [eqB38, z38] at hev
          go_wp2
          go_ret2
          exact ⟨.inr ⟨1, HR.out, rfl⟩, HB1.out⟩
      · cases hu : undr st x.f0 with
        | none =>
          cases t : x.f1
          · have hr := HALL.out 5 (rstep_none st k x hev t hu)
            have HR := Aside0.mk hr
            clear hr
            rw [isEv_f t] at hev
            rw [t] at b1
            simp only [eqB36, z36] at hev
            have hui : unI none = -1 := rfl
            go_wp2
            go_ret2
            exact ⟨.inr ⟨5, HR.out, rfl⟩, HB1.out⟩
          · have hr := HSTEP.out.trans (rstep_new st k x hev t hu)
            have HR := Aside0.mk hr
            clear hr
            rw [isEv_t t] at hev
            rw [t] at b1
            simp only [eqB38, z38] at hev
            have hui : unI none = -1 := rfl
            have hstl : st.length ≤ 1000000 := by omega
            go_wp2_with ((with_reducible refine gate_builtin (b := .append) (xs := #[.tmp 49, .tmp 56]) rfl ?_); at_builtin; refine Kd.R_append k40 (w0 := w) w.heap.size rfl (.tmp 49) (.tmp 56) 23 40 _ _ rfl Tryd.underlying23 info40 rfl (by decide) (by first | omega | (simp only [List.length_append, List.length_cons, List.length_nil]; omega)) (.slice A1 st.length n1) (st) (newRow x k) (c40 (newRow x k)) (fun _ => True) (fun _ => False) rfl (by first | (go_simp; done) | (go_simp; rfl)) (k40_mkM _ _ _ _) (fun _ hk => hk.elim) (fun _ _ => trivial) HR1.out HB1.out (below_size HB1.out) (by first | omega | (simp only [List.length_append, List.length_cons, List.length_nil]; omega)) ?_; intro v3 w3 ho hb hg hat)
            have HR3 := Aside0.mk ho
            have HB3 := Aside0.mk hb
            clear ho hb hg hat
            go_roundw
            case rel => exact ⟨k + 1, _, _, rfl, by omega, by go_num, HR.out, HR3.out, HB3.out⟩
            case measure => simp [intOf]; omega
        | some k_ =>
          obtain ⟨r, hrk, hkl_⟩ := undr_row2 hu
          have hui : unI (some k_) = (k_ : Int) := rfl
          have hu0 : (0 : Int) ≤ (k_ : Int) := by omega
          cases t : x.f1
          · have hr := HSTEP.out.trans (rstep_end st k k_ x r hev t hu hrk)
            have HR := Aside0.mk hr
            clear hr
            rw [isEv_f t] at hev
            rw [t] at b1
            simp only [eqB36, z36] at hev
            obtain ⟨g, cap, hv, _, _, _⟩ := Kd.R_form HR1.out (by omega)
            obtain ⟨rfl, _, rfl⟩ : A1 = some ⟨g, 0, none⟩ ∧ True ∧ n1 = cap := by
              injection hv with e1 _ e3
              exact ⟨e1, trivial, e3⟩
            obtain ⟨cg, hcg⟩ := Kd.R_typed HR1.out g (by simp [Value.ownBlock])
            have hne : tb ≠ g := by
              intro he
              have h9 := HBX.out
              rw [he, hcg] at h9
              simp at h9
            have HXG := Aside0.mk (show some tb ≠ some g from fun e => hne (Option.some.inj e))
            have hki : (k_ : Int) < (st.length : Int) := by omega
            have HRK := Aside0.mk hrk
            have HKL := Aside0.mk hkl_
            clear hu hv hcg hne hrk
            go_wp2_with (first
              | ((with_reducible refine gate_ (.store 3 (.tmp 62) (.tmp 60)) rfl ?_); refine row_store (w0 := w) rfl rfl 3 (.tmp 62) (.tmp 60) rfl k_ 8 st r ⟨r.f0, r.f1, r.f2, r.f3, (k : Int), r.f5⟩ (.int .i64 k) [.int .i64 k] (by first | (go_simp; done) | (go_simp; rfl)) (by omega) (by first | (go_simp; done) | (go_simp; rfl)) rfl (by kernel_rfl) (by simp [Value.oneCell']) HR1.out (HKL.out) HRK.out (by simp) rfl HB1.out ?_; intro wa hoa hba hga; have HRa := Aside0.mk (len1 HKL.out hoa); have HBa := Aside0.mk hba; have HBXa := Aside0.mk (blk_grownBy hga HXG.out HBX.out); clear hoa hba hga)
              | ((with_reducible refine gate_ (.store 4 (.tmp 66) (.const (.bool true))) rfl ?_); refine row_store (w0 := w) rfl rfl 4 (.tmp 66) (.const (.bool true)) rfl k_ 9 (st.set k_ ⟨r.f0, r.f1, r.f2, r.f3, (k : Int), r.f5⟩) ⟨r.f0, r.f1, r.f2, r.f3, (k : Int), r.f5⟩ ⟨r.f0, r.f1, r.f2, r.f3, (k : Int), true⟩ (.bool true) [.bool true] (by first | (go_simp; done) | (go_simp; rfl)) (by omega) (by first | (go_simp; done) | (go_simp; rfl)) rfl (by kernel_rfl) (by simp [Value.oneCell']) HRa.out (by rw [List.length_set]; exact HKL.out) (set_self HKL.out) (by simp) rfl HBa.out ?_; intro wb hob hbb hgb; have HRb := Aside0.mk (len1 (by rw [List.length_set]; exact HKL.out) hob); have HBb := Aside0.mk hbb; have HBXb := Aside0.mk (blk_grownBy hgb HXG.out HBXa.out); obtain ⟨c0, c1, c2, c3, c4, c5, c6, c7⟩ := cells44 HBXb.out; clear hob hbb hgb)
              | ((with_reducible refine gate_ (.store 38 (.tmp 72) (.tmp 70)) rfl ?_); refine row_store (w0 := w) rfl rfl 38 (.tmp 72) (.tmp 70) rfl k_ 5 ((st.set k_ ⟨r.f0, r.f1, r.f2, r.f3, (k : Int), r.f5⟩).set k_ ⟨r.f0, r.f1, r.f2, r.f3, (k : Int), true⟩) ⟨r.f0, r.f1, r.f2, r.f3, (k : Int), true⟩ ⟨r.f0, r.f1, x.f3, r.f3, (k : Int), true⟩ (.agg #[.int .i64 x.f3.f0, .int .i64 x.f3.f1]) [.int .i64 x.f3.f0, .int .i64 x.f3.f1] (by first | (go_simp; done) | (go_simp; rfl)) (by omega) (by first | (go_simp; done) | (go_simp; rfl)) rfl (by kernel_rfl) (by simp [Value.oneCell']) HRb.out (by rw [List.length_set, List.length_set]; exact HKL.out) (set_self (by rw [List.length_set]; exact HKL.out)) (by simp) rfl HBb.out ?_; intro wc hoc hbc hgc; have HRc := Aside0.mk (len1 (by rw [List.length_set, List.length_set]; exact HKL.out) hoc); have HBc := Aside0.mk hbc; clear hoc hbc hgc c0 c1 c2 c3 c4 c5 c6 c7))
            have HLL := HRc.out
            rw [show (((st.set k_ (⟨r.f0, r.f1, r.f2, r.f3, (k : Int), r.f5⟩ : Rw)).set k_ (⟨r.f0, r.f1, r.f2, r.f3, (k : Int), true⟩ : Rw)).set k_ (⟨r.f0, r.f1, x.f3, r.f3, (k : Int), true⟩ : Rw)) = st.set k_ (endRow r x k) by rw [List.set_set, List.set_set]; rfl] at HLL
            have HRZ := Aside0.mk HLL
            clear HLL
            go_roundw
            case rel => exact ⟨k + 1, _, _, (by rw [List.length_set]), by omega, by go_num, HR.out, HRZ.out, HBc.out⟩
            case measure => simp [intOf]; omega
          · have hr := HALL.out 5 (rstep_twice st k k_ x hev t hu)
            have HR := Aside0.mk hr
            clear hr
            rw [isEv_t t] at hev
            rw [t] at b1
            simp only [eqB38, z38] at hev
            go_wp2
            go_ret2
            exact ⟨.inr ⟨5, HR.out, rfl⟩, HB1.out⟩
    · go_wp2
      go_ret2
      have hk' : k = es.length := by omega
      subst hk'
      have g1 := HST.out
      rw [List.take_length] at g1
      exact ⟨.inl ⟨st, _, g1, rfl, HR.out⟩, HB.out⟩
end Go.Proofs.YtpejloegidailaaDoor.An
