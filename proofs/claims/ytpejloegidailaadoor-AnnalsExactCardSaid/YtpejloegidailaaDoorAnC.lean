/- DeleteFunc, Whole, count, Same. -/
import Derived.Test.YtpejloegidailaaDoorAnB
import Derived.Test.YtpejloegidailaaDoorSt
namespace Go.Proofs.YtpejloegidailaaDoor.An
open Go.RowKit Go.Proofs.YtpejloegidailaaDoorW.PrintWords Go.Proofs.YtpejloegidailaaDoorW.PrintLast Go.Proofs.YtpejloegidailaaDoorW.PrintMore Go.Proofs.YtpejloegidailaaDoor.X
set_option linter.unusedVariables false
set_option linter.unusedSimpArgs false
attribute [local go_sem high] eqA38 eqA36 eqA40

theorem idx_cases (l : List Rw) : (idxF l = -1 ∧ (l.filter fun r => r.f5) = l) ∨ ∃ k, k < l.length ∧ idxF l = (k : Int) ∧ ((l.take (k + 1)).filter fun r => r.f5) = l.take k := by
  cases h : l.findIdx? (fun r : Rw => !r.f5) with
  | none =>
    left
    refine ⟨by unfold idxF; rw [h], ?_⟩
    rw [List.filter_eq_self]
    intro r hr
    have := List.findIdx?_eq_none_iff.1 h r hr
    simpa using this
  | some k =>
    right
    obtain ⟨hl, hp, hb⟩ := List.findIdx?_eq_some_iff_getElem.1 h
    refine ⟨k, hl, by unfold idxF; rw [h], ?_⟩
    have hp' : l[k].f5 = false := by simpa using hp
    rw [List.take_succ_eq_append_getElem hl, List.filter_append, List.filter_eq_self.2]
    · simp [List.filter_cons, hp']
    · intro r hr
      obtain ⟨j, hj, rfl⟩ := List.getElem_of_mem hr
      have hj2 : j < k := by simp at hj; omega
      have := hb j hj2
      simpa using this
theorem del_keep (l ys : List Rw) (i j : Nat) (x : Rw) (hl : ys.length = l.length) (hij : i < j) (hj : j < l.length) (h1 : ys.take i = (l.take j).filter fun r => r.f5) (h2 : ys.drop j = l.drop j) (hx : x = rd_T40 ys (j : Int)) (h5 : x.f5 = true) :
    (ys.set i x).length = l.length ∧ (ys.set i x).take (i + 1) = ((l.take (j + 1)).filter fun r => r.f5) ∧ (ys.set i x).drop (j + 1) = l.drop (j + 1) := by
  have hxl : x = l[j] := by
    rw [hx]
    have := congrArg (fun z : List Rw => z[0]?) h2
    simp only [List.getElem?_drop, Nat.add_zero] at this
    simp [rd_T40, List.getD, this, hj]
  refine ⟨by simp [hl], ?_, ?_⟩
  · rw [List.take_succ_eq_append_getElem (show i < (ys.set i x).length by simp; omega), List.take_succ_eq_append_getElem hj, List.filter_append, ← h1]
    simp [← hxl, h5, List.filter_cons, List.take_set_of_le]
  · rw [List.drop_set_of_lt (by omega)]
    have := congrArg (List.drop 1) h2
    simpa [List.drop_drop, Nat.add_comm] using this
theorem del_skip (l ys : List Rw) (i j : Nat) (x : Rw) (hl : ys.length = l.length) (hj : j < l.length) (h1 : ys.take i = (l.take j).filter fun r => r.f5) (h2 : ys.drop j = l.drop j) (hx : x = rd_T40 ys (j : Int)) (h5 : x.f5 = false) :
    ys.take i = ((l.take (j + 1)).filter fun r => r.f5) ∧ ys.drop (j + 1) = l.drop (j + 1) := by
  have hxl : x = l[j] := by
    rw [hx]
    have := congrArg (fun z : List Rw => z[0]?) h2
    simp only [List.getElem?_drop, Nat.add_zero] at this
    simp [rd_T40, List.getD, this, hj]
  refine ⟨?_, ?_⟩
  · rw [List.take_succ_eq_append_getElem hj, List.filter_append, ← h1]
    simp [← hxl, h5, List.filter_cons]
  · have := congrArg (List.drop 1) h2
    simpa [List.drop_drop, Nat.add_comm] using this
def zz (n : Nat) : List Value := (Builtin.zeroCells #[.int .i64 0, .int .i64 0, .int .i64 0, .int .i64 0, .int .i64 0, .int .i64 0, .int .i64 0, .int .i64 0, .int .i64 0, .bool false] n).toList
theorem zz_length (n : Nat) : (zz n).length = n * 10 := by simp [zz, Builtin.zeroCells]
theorem zz_one (n : Nat) : ∀ v ∈ zz n, v.oneCell' = true := by
  intro v hv
  simp only [zz, Builtin.zeroCells, Array.toList_map, List.mem_map] at hv
  obtain ⟨i, _, rfl⟩ := hv
  have : i % 10 < 10 := Nat.mod_lt _ (by decide)
  show (#[Value.int .i64 0, .int .i64 0, .int .i64 0, .int .i64 0, .int .i64 0, .int .i64 0, .int .i64 0, .int .i64 0, .int .i64 0, .bool false][i % 10]!).oneCell' = true
  generalize i % 10 = j at this
  rcases j with _ | _ | _ | _ | _ | _ | _ | _ | _ | _ | j <;> first | rfl | omega
theorem zeroRow (w : World) : (zeroValue 40).run Tryd.prog w = .ok (.agg #[.int .i64 0, .int .i64 0, .int .i64 0, .int .i64 0, .int .i64 0, .int .i64 0, .int .i64 0, .int .i64 0, .int .i64 0, .bool false]) w := by kernel_rfl
theorem clear_run (g cap m n : Nat) (cur : Array Value) (w : World) (hb : w.heap[g]? = some (.cells cur 40 (0, 0))) (hm : m < n) (hs : n * 10 ≤ cur.size) (ty : TypeId) (c : Nat) :
    (Builtin.clear_ #[23] ty #[.slice (some ⟨g, m * 10, none⟩) (n - m) c]).run Tryd.prog w = .ok (.tuple #[]) (w.setCells g (m * 10) (zz (n - m))) := by
  have hst := run_storeCells_cells (P := Tryd.prog) g (m * 10) (zz (n - m)) 0 w (fun j hj => by rw [zz_length] at hj; rw [cell_of_row w g _ cur _ (0, 0) hb]; simp; omega) (fun j _ => blk_frozen hb _) (zz_one _)
  simp only [Nat.add_zero] at hst
  obtain ⟨k, hk⟩ : ∃ k, n - m = k + 1 := ⟨n - m - 1, by omega⟩
  rw [hk] at hst ⊢
  simp only [zz] at hst ⊢
  simp [Builtin.clear_, run_underlying Tryd.underlying23, zeroRow, Value.cells, hst]
theorem C_front {g o : Nat} {seg : List Value} {w : World} {cur : Array Value} {ys : List Rw} (m : Nat) (hC : Kd.C k40 w (some ⟨g, 0, none⟩) ys.length ys) (hm : m ≤ ys.length) (ho : o = m * 10) (hb : w.heap[g]? = some (.cells cur 40 (0, 0))) (hs : o + seg.length ≤ cur.size) :
    Kd.C k40 (w.setCells g o seg) (some ⟨g, 0, none⟩) (ys.take m).length (ys.take m) := by
  obtain ⟨h1, h2, h3⟩ := Kd.C_take hC hm
  refine ⟨h1, h2, fun hp => ?_⟩
  obtain ⟨ad, e, hc⟩ := h3 hp
  refine ⟨ad, e, fun j p hj => ?_⟩
  obtain ⟨c, hl, hK, hcc⟩ := hc j p hj
  refine ⟨c, hl, by obtain rfl := k40_open hK; exact k40_mk _ _, fun i u hu => ?_⟩
  have hj' : j < m := by have := (List.getElem?_eq_some_iff.1 hj).1; simp at this; omega
  have hl' : c.length = 10 := hl
  have hi' : i < 10 := by have := (List.getElem?_eq_some_iff.1 hu).1; omega
  have h4 := hcc i u hu
  cases e
  have e1 : (⟨g, 0, none⟩ : Addr).add (j * Kd.sz k40 + i) = ⟨g, j * 10 + i, none⟩ := by rw [add_at]; simp; rfl
  rw [e1] at h4 ⊢
  obtain ⟨cur', h5, _, h6⟩ := setCells_row seg o w cur hb hs
  rw [cell_of_row _ g _ cur' _ (0, 0) h5]
  rw [cell_of_row _ g _ cur _ (0, 0) hb] at h4
  rw [← Array.getElem?_toList] at h4 ⊢
  have h7 := (List.getElem?_eq_some_iff.1 h4).1
  rw [h6, List.append_assoc, List.getElem?_append_left (by simp; simp at h7; omega), List.getElem?_take_of_lt (by omega)]
  exact h4



set_option maxHeartbeats 2000000 in
theorem delete_c (g n cap : Nat) (l : List Rw) (w0 w : World) (base : Nat) (hR : Kd.R k40 40 w base (fun _ => True) (.slice (some ⟨g, 0, none⟩) n cap) l) (hbw : Below base w0 w) (hbase : base ≤ w.heap.size) (hlim : l.length ≤ 1000000) :
    Calls Tryd.prog 28 #[.slice (some ⟨g, 0, none⟩) n cap, .func (.func 30) #[] #[]] w fun e w' => ∃ v : Value, e = .returned v ∧ Sl k40 w' v (l.filter fun r => r.f5) ∧ Below base w0 w' := by
  have h1 := Tryd.underlying40
  obtain ⟨rfl, hnc, hC⟩ := Kd.R_reads' hR
  have hlen := Kd.C_max hC
  have HR := Aside0.mk hR
  clear hR
  have HC := Aside0.mk hC
  clear hC
  have HBW := Aside0.mk hbw
  clear hbw
  go_enter Tryd.func28, Tryd.ntmps28
  go_wp2_with fail
  refine (index_c _ cap l _ HC.out).mono ?_
  rintro e w1 ⟨rfl, hb1⟩
  have hB1 := HBW.out.trans ⟨hb1.os, hb1.tape, hb1.output, hb1.size, fun k hk => hb1.block k (by omega)⟩
  have hR1 := Kd.R_below HR.out hb1
  have hbase1 : base ≤ w1.heap.size := Nat.le_trans hbase hb1.size
  have HB1 := Aside0.mk hB1
  clear hB1
  have HR1 := Aside0.mk hR1
  clear hR1
  clear HR HC HBW hb1
  rcases idx_cases l with ⟨hi, hf⟩ | ⟨k0, hk0, hi, hf⟩
  · rw [hi]
    have HF := Aside0.mk hf
    clear hf
    clear hi
    go_wp2
    go_ret
    exact ⟨_, rfl, by rw [HF.out]; exact Sl_R HR1.out, HB1.out⟩
  · rw [hi]
    have hk1 : ((k0 : Int) == -1) = false := by simp
    have hw := IntWalk.i64_in ((k0 : Int) + 1) ⟨by omega, by omega⟩
    have HF := Aside0.mk hf
    clear hf
    clear hi
    go_wp2
    go_loopw [5, 6] (fun i j wr => ∃ (ki kj : Nat) (ys : List Rw), i = .int .i64 ki ∧ j = .int .i64 kj ∧ ki < kj ∧ kj ≤ l.length ∧ ys.length = l.length ∧ base ≤ wr.heap.size ∧ Kd.R k40 40 wr base (fun _ => True) (.slice (some ⟨g, 0, none⟩) l.length cap) ys ∧ Below base w0 wr ∧ ys.take ki = ((l.take kj).filter fun r => r.f5) ∧ ys.drop kj = l.drop kj) (fun _ j _ => l.length - (intOf j).toNat)
    case atStart => exact ⟨k0, k0 + 1, l, rfl, rfl, Nat.lt_succ_self _, hk0, rfl, hbase1, HR1.out, HB1.out, HF.out.symm, rfl⟩
    case round =>
      obtain ⟨ki, kj, ys, rfl, rfl, hij, hjl, hyl, hbs, hR, hB, ht, hd⟩ := hrel
      obtain ⟨hyn, _, hC⟩ := Kd.R_reads' hR
      have HR := Aside0.mk hR
      clear hR
      have HB := Aside0.mk hB
      clear hB
      have HC := Aside0.mk hC
      clear hC
      have HT := Aside0.mk ht
      clear ht
      have HD := Aside0.mk hd
      clear hd
      have HYN := Aside0.mk hyn
      clear hyn
      by_cases hlt : kj < l.length
      · obtain ⟨ad, eA, q0, q1, q2, q3, q4, q5, q6, q7, q8, q9⟩ := at_T40 HC.out (kj : Int) (by omega) (by omega)
        simp only [Int.toNat_natCast] at q0 q1 q2 q3 q4 q5 q6 q7 q8 q9
        cases eA
        obtain ⟨x, hx⟩ : ∃ x, x = rd_T40 ys (kj : Int) := ⟨_, rfl⟩
        rw [← hx] at q0 q1 q2 q3 q4 q5 q6 q7 q8 q9
        simp only [add_at, Nat.zero_add] at q0 q1 q2 q3 q4 q5 q6 q7 q8 q9
        have hkeep := del_keep l ys ki kj x hyl hij hlt HT.out HD.out hx
        have hskip := del_skip l ys ki kj x hyl hlt HT.out HD.out hx
        have HKEEP := Aside0.mk hkeep
        clear hkeep
        have HSKIP := Aside0.mk hskip
        clear hskip
        have HX := Aside0.mk hx
        clear hx
        go_wp2_with fail
        refine (undone_c x _).mono ?_
        rintro e w2 ⟨rfl, hb2⟩
        have hbx : w2.heap[wr.heap.size]? = some (o40 x) := blk_below hb2 (blk_new _ _)
        obtain ⟨b0, b1, b2, b3, b4, b5, b6, b7, b8, b9⟩ := cells40 hbx
        have hR2 := Kd.R_below (Kd.R_alloc HR.out (o40 x)) hb2
        have hB2 := bel (bel HB.out hbs (below_alloc (Below.refl _ _) (o40 x))) (by simp; omega) hb2
        have hbs2 : base ≤ w2.heap.size := by have := hb2.size; simp at this; omega
        clear hb2 q0 q1 q2 q3 q4 q5 q6 q7 q8 q9 hbx HC HR HB
        have HR2 := Aside0.mk hR2
        clear hR2
        have HB2 := Aside0.mk hB2
        clear hB2
        cases t : x.f5
        · have hs := HSKIP.out t
          rw [t] at b9
          have HS := Aside0.mk hs
          clear hs
          go_wp2
          go_roundw
          case rel => exact ⟨ki, kj + 1, ys, rfl, by go_num, by omega, by omega, hyl, hbs2, HR2.out, HB2.out, HS.out.1, HS.out.2⟩
          case measure => simp [intOf]; omega
        · have hs := HKEEP.out t
          rw [t] at b9
          obtain ⟨c, hcl, _, hcc, _⟩ := Kd.R_elem HR2.out z40 (ki : Int) (by omega) (by omega)
          have hcl' : c.length = 10 := hcl
          have hxe : x = ⟨x.f0, x.f1, x.f2, x.f3, x.f4, true⟩ := by rw [← t]
          have hM : k40.M w2 base (fun _ => False) x (c.take 0 ++ c40 ⟨x.f0, x.f1, x.f2, x.f3, x.f4, true⟩ ++ c.drop (0 + (c40 ⟨x.f0, x.f1, x.f2, x.f3, x.f4, true⟩).length)) := by
            rw [List.take_zero, List.nil_append, List.drop_eq_nil_of_le (by rw [hcl']; simp), List.append_nil, ← hxe]
            exact k40_mkM _ _ _ _
          clear hxe
          have HS := Aside0.mk hs
          clear hs
          have HCL := Aside0.mk hcl
          clear hcl
          have HCC := Aside0.mk hcc
          clear hcc
          have HM := Aside0.mk hM
          clear hM
          go_wp2_with ((with_reducible refine gate_ (.store 40 (.tmp 33) (.tmp 32)) rfl ?_); refine Kd.R_store k40 (w0 := w0) base rfl rfl 40 (.tmp 33) (.tmp 32) rfl 40 (ki : Int) 0 ys x (v40 ⟨x.f0, x.f1, x.f2, x.f3, x.f4, true⟩) (c40 ⟨x.f0, x.f1, x.f2, x.f3, x.f4, true⟩) c (fun _ => True) (fun _ => False) (by first | (go_simp; done) | (go_simp; rfl)) rfl (by first | (go_simp; done) | (go_simp; rfl)) rfl (by kernel_rfl) (by simp [Value.oneCell']) HR2.out (by omega) (by omega) HCL.out HCC.out (Nat.le_refl 10) HM.out (fun _ h => h.elim) HB2.out ?_; intro w3 ho hb hg)
          go_roundw
          case rel => exact ⟨ki + 1, kj + 1, ys.set ki x, by go_num, by go_num, by omega, by omega, HS.out.1, Nat.le_trans hbs2 hg.size, by simpa using ho, hb, HS.out.2.1, HS.out.2.2⟩
          case measure => simp [intOf]; omega
      · obtain rfl : kj = l.length := by omega
        have hfull := HT.out
        rw [List.take_length] at hfull
        have HFULL := Aside0.mk hfull
        clear hfull
        obtain ⟨cur, hcur, hsz⟩ : ∃ cur : Array Value, wr.heap[g]? = some (.cells cur 40 (0, 0)) ∧ l.length * 10 ≤ cur.size := by
          obtain ⟨_, inner, ho, hr⟩ := HR.out
          rcases ho.2 with ⟨hv, _⟩ | ⟨g', cap', cur, hv, hb, hh, hnc', hcm, hcs, _⟩
          · cases hv
          · injection hv with ha _ hc
            injection ha with ha
            injection ha with hg'
            subst hg'; subst hc
            exact ⟨cur, hh, by have h9 : cur.size = cap * 10 := hcs; omega⟩
        have hcl := clear_run g cap ki l.length cur wr hcur hij hsz
        have hfin := C_front (o := ki * 10) (seg := zz (l.length - ki)) ki HC.out (by omega) rfl hcur (by rw [zz_length]; omega)
        have hbf : Below base w0 (wr.setCells g (ki * 10) (zz (l.length - ki))) := by
          obtain ⟨s1, s2, s3, s4⟩ := setCells_same g (zz (l.length - ki)) (ki * 10) wr
          have hbg : base ≤ g := Kd.R_base HR.out g (by simp [Value.ownBlock])
          exact HB.out.trans ⟨s1, s2, s3, by rw [s4]; exact Nat.le_refl _, fun k hk => setCells_far _ _ k (by omega)⟩
        have HFIN := Aside0.mk hfin
        clear hfin
        have HBF := Aside0.mk hbf
        clear hbf
        go_wp2
        go_ret
        have hlen' : (ys.take ki).length = ki := by rw [List.length_take]; omega
        have hC := HFIN.out
        rw [HFULL.out] at hC hlen'
        have h9 := Sl_mk (c := cap) hC (Nat.le_trans (List.length_filter_le _ _) (by omega))
        rw [hlen'] at h9
        exact ⟨_, rfl, h9, HBF.out⟩

/-! ### Whole, count, Same -/
def wholeM (l : List Rw) : List Rw := l.filter fun r => r.f5
theorem delete_nil (c : Nat) (w0 w : World) (hR : Kd.R k40 40 w w0.heap.size (fun _ => True) (.slice none 0 c) []) (hB : Below w0.heap.size w0 w) :
    Calls Tryd.prog 28 #[.slice none 0 c, .func (.func 30) #[] #[]] w fun e w' => ∃ v : Value, e = .returned v ∧ Sl k40 w' v [] ∧ Below w0.heap.size w0 w' := by
  have hC := (Kd.R_reads' hR).2.2
  go_enter Tryd.func28, Tryd.ntmps28
  go_wp2_with fail
  refine (index_c none c [] _ hC).mono ?_
  rintro e w1 ⟨rfl, hb1⟩
  rw [show idxF [] = -1 from rfl]
  go_wp2
  go_ret
  exact ⟨_, rfl, Sl_R (Kd.R_below hR hb1), below_step hB hb1⟩
theorem whole_c (A : Option Addr) (c : Nat) (l : List Rw) (w : World) (hl : Kd.C k40 w A l.length l) (hc : l.length ≤ c) (hlim : l.length ≤ 1000000) :
    Calls Tryd.prog 14 #[.slice A l.length c] w fun e w' => ∃ v : Value, e = .returned v ∧ Sl k40 w' v (wholeM l) ∧ Below w.heap.size w w' := by
  have H := clone_c A c l w hl hc hlim
  go_enter Tryd.func14, Tryd.ntmps14
  go_wp2_with fail
  refine H.mono ?_
  rintro e w1 ⟨v, rfl, hR, hB⟩
  obtain ⟨A1, n1, rfl⟩ := Kd.R_slice hR
  have hD : Calls Tryd.prog 28 #[.slice A1 l.length n1, .func (.func 30) #[] #[]] w1 fun e w' => ∃ v : Value, e = .returned v ∧ Sl k40 w' v (wholeM l) ∧ Below w.heap.size w w' := by
    cases A1 with
    | some ad =>
      obtain ⟨g, rfl⟩ := Kd.R_head hR
      exact delete_c g _ n1 l w w1 w.heap.size hR hB hB.size hlim
    | none =>
      obtain ⟨_, _, hC⟩ := Kd.R_reads' hR
      obtain rfl : l = [] := by
        cases l with
        | nil => rfl
        | cons x l =>
          obtain ⟨ad, h, _⟩ := hC.2.2 (by simp)
          cases h
      exact delete_nil n1 w w1 hR hB
  clear hR hB
  go_wp2_with fail
  refine hD.mono ?_
  rintro e w2 ⟨v, rfl, hS, hb⟩
  go_wp2
  go_ret
  exact ⟨_, rfl, hS, hb⟩
theorem count_c (A : Option Addr) (c : Nat) (l : List Rw) (w : World) (hl : Kd.C k40 w A l.length l) (hc : l.length ≤ c) (hlim : l.length ≤ 1000000) :
    Calls Tryd.prog 26 #[.slice A l.length c] w fun e w' => e = .returned (.int .i64 (cntM l)) ∧ Below w.heap.size w w' := by
  have H := whole_c A c l w hl hc hlim
  have hn : (l.filter fun r : Rw => r.f5).length ≤ l.length := List.length_filter_le _ _
  have hw := IntWalk.i64_in ((l.length : Int) + ((wholeM l).length : Int)) ⟨by omega, by unfold wholeM; omega⟩
  go_enter Tryd.func26, Tryd.ntmps26
  go_wp2_with fail
  refine H.mono ?_
  rintro e w1 ⟨v, rfl, ⟨A1, c1, rfl, _, _⟩, hB⟩
  go_wp2
  go_ret
  exact ⟨ret_int (by simp [cntM, wholeM]), hB⟩
set_option maxHeartbeats 1000000 in
theorem equal_c (A : Option Addr) (c : Nat) (a : List Rw) (B : Option Addr) (d : Nat) (b : List Rw) (w : World) (ca : Kd.C k40 w A a.length a) (cb : Kd.C k40 w B b.length b) :
    Calls Tryd.prog 27 #[.slice A a.length c, .slice B b.length d] w fun e w' => e = .returned (.bool (decide (a = b))) ∧ Below w.heap.size w w' := by
  have hla := Kd.C_max ca
  have hlb := Kd.C_max cb
  have h1 := Tryd.underlying40
  have h2 := Tryd.underlying36
  have h3 := Tryd.underlying38
  have CA := Aside0.mk ca
  clear ca
  have CB := Aside0.mk cb
  clear cb
  by_cases hlen : a.length = b.length
  · have hl1 : (a.length != b.length) = false := by simp [hlen]
    have hl2 : ((a.length : Int) != (b.length : Int)) = false := by simp [hlen]
    have HLEN := Aside0.mk hlen
    clear hlen
    go_enter Tryd.func27, Tryd.ntmps27
    go_wp2
    go_loopw [13] (fun i wr => ∃ k : Nat, k ≤ a.length ∧ i = .int .i64 k ∧ Below w.heap.size w wr ∧ a.take k = b.take k) (fun i _ => a.length - (intOf i).toNat)
    case atStart => exact ⟨0, Nat.zero_le _, rfl, Below.refl _ _, rfl⟩
    case round =>
      obtain ⟨k, hkl, rfl, hb, he⟩ := hrel
      have HB := Aside0.mk hb
      clear hb
      have HE := Aside0.mk he
      clear he
      by_cases hlt : k < a.length
      · have hlt2 : k < b.length := by rw [← HLEN.out]; exact hlt
        have hkk : (0 : Int) ≤ (k : Int) := by omega
        have hkn : (k : Int) < (a.length : Int) := by omega
        have hkm : (k : Int) < (b.length : Int) := by omega
        have hta := take_snoc a z40 k hlt
        have htb := take_snoc b z40 k hlt2
        have hra : rd_T40 a (k : Int) = a.getD k z40 := by simp [rd_T40]
        have hrb : rd_T40 b (k : Int) = b.getD k z40 := by simp [rd_T40]
        rw [← hra] at hta
        rw [← hrb] at htb
        have HTA := Aside0.mk hta
        clear hta
        have HTB := Aside0.mk htb
        clear htb
        have HRA := Aside0.mk hra
        clear hra
        have HRB := Aside0.mk hrb
        clear hrb
        obtain ⟨ad, eA, q0, q1, q2, q3, q4, q5, q6, q7, q8, q9⟩ := at_T40 CA.out (k : Int) (by omega) (by omega)
        replace q0 := pw_cell_below HB.out q0
        replace q1 := pw_cell_below HB.out q1
        replace q2 := pw_cell_below HB.out q2
        replace q3 := pw_cell_below HB.out q3
        replace q4 := pw_cell_below HB.out q4
        replace q5 := pw_cell_below HB.out q5
        replace q6 := pw_cell_below HB.out q6
        replace q7 := pw_cell_below HB.out q7
        replace q8 := pw_cell_below HB.out q8
        replace q9 := pw_cell_below HB.out q9
        simp only [Int.toNat_natCast] at q0 q1 q2 q3 q4 q5 q6 q7 q8 q9
        cases eA
        obtain ⟨ad, eA, r0, r1, r2, r3, r4, r5, r6, r7, r8, r9⟩ := at_T40 CB.out (k : Int) (by omega) (by omega)
        replace r0 := pw_cell_below HB.out r0
        replace r1 := pw_cell_below HB.out r1
        replace r2 := pw_cell_below HB.out r2
        replace r3 := pw_cell_below HB.out r3
        replace r4 := pw_cell_below HB.out r4
        replace r5 := pw_cell_below HB.out r5
        replace r6 := pw_cell_below HB.out r6
        replace r7 := pw_cell_below HB.out r7
        replace r8 := pw_cell_below HB.out r8
        replace r9 := pw_cell_below HB.out r9
        simp only [Int.toNat_natCast] at r0 r1 r2 r3 r4 r5 r6 r7 r8 r9
        cases eA
        cases hq : eqB40 (rd_T40 a (k : Int)) (rd_T40 b (k : Int))
        · have hn : decide (a = b) = false := by
            simp only [decide_eq_false_iff_not]
            rintro rfl
            rw [eqB40_self] at hq
            cases hq
          have HN := Aside0.mk hn
          clear hn
          simp only [eqB40, eqB36, eqB38] at hq
          go_wp2
          go_quiet (fail)
          go_wp2
          go_ret
          exact ⟨by rw [HN.out]; rfl, pw_below_drewN HB.out _⟩
        · have he2 : a.take (k + 1) = b.take (k + 1) := by rw [HTA.out, HTB.out, HE.out, (eqB40_iff _ _).1 hq]
          have HE2 := Aside0.mk he2
          clear he2
          simp only [eqB40, eqB36, eqB38] at hq
          go_wp2
          go_quiet (fail)
          go_wp2
          go_roundw
          case rel => exact ⟨k + 1, by omega, by go_num, pw_below_drewN HB.out _, HE2.out⟩
          case measure => simp [intOf]; omega
      · go_wp2
        go_ret
        have hk' : k = a.length := by omega
        have h1 := HE.out
        rw [hk', List.take_length, HLEN.out, List.take_length] at h1
        exact ⟨by rw [h1]; simp, HB.out⟩
  · have hl1 : (a.length != b.length) = true := by simp [hlen]
    have hl2 : ((a.length : Int) != (b.length : Int)) = true := by simp; omega
    have hf : decide (a = b) = false := by simp; rintro rfl; exact hlen rfl
    rw [hf]
    clear hlen hf
    go_enter Tryd.func27, Tryd.ntmps27
    go_wp2
    go_ret
    exact ⟨rfl, Below.refl _ _⟩
theorem same_c {u v : Value} {a b : List Rw} {w : World} (ha : Sl k40 w u a) (hb : Sl k40 w v b) :
    Calls Tryd.prog 12 #[u, v] w fun e w' => e = .returned (.bool (decide (a = b))) ∧ Below w.heap.size w w' := by
  obtain ⟨A, c, rfl, _, ca⟩ := ha
  obtain ⟨B, d, rfl, _, cb⟩ := hb
  have H := equal_c A c a B d b w ca cb
  go_enter Tryd.func12, Tryd.ntmps12
  go_wp2_with fail
  refine H.mono ?_
  rintro e w1 ⟨rfl, hB⟩
  go_wp2
  go_ret
  exact ⟨rfl, hB⟩
end Go.Proofs.YtpejloegidailaaDoor.An
