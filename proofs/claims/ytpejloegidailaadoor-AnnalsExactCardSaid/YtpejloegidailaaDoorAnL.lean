/- The document's under, Ahead, Whole, Events. (Partly printed by gen_ref.py.) -/
import Derived.Test.YtpejloegidailaaDoorAnG
namespace Go.Proofs.YtpejloegidailaaDoor.An
open Go.RowKit Go.Proofs.YtpejloegidailaaDoorW.PrintWords Go.Proofs.YtpejloegidailaaDoorW.PrintLast Go.Proofs.YtpejloegidailaaDoorW.PrintMore Go.Proofs.YtpejloegidailaaDoor.X
set_option linter.unusedVariables false
set_option linter.unusedSimpArgs false
attribute [local go_sem high] eqA38 eqA36 eqA44

/-! ### under -/
def unI (o : Option Nat) : Int := match o with
  | some k => (k : Int)
  | none => -1
theorem undr_at (l : List Rw) (t : Int) (k : Nat) (h : k < l.length) (ha : (l.take k).all (fun r => !(r.f0 == t && !r.f5)) = true) (hk : ((l.getD k z40).f0 == t && !(l.getD k z40).f5) = true) : undr l t = some k := by
  unfold undr
  rw [List.findIdx?_eq_some_iff_getElem]
  have hg : l.getD k z40 = l[k] := by simp [List.getD, h]
  rw [hg] at hk
  refine ⟨h, hk, fun j hj => ?_⟩
  have := List.all_eq_true.1 ha l[j] (by rw [List.mem_take_iff_getElem]; exact ⟨j, by omega, rfl⟩)
  simp at this ⊢
  intro h0
  rcases this with h | h
  · exact absurd h0 h
  · exact h
theorem undr_no (l : List Rw) (t : Int) (ha : l.all (fun r => !(r.f0 == t && !r.f5)) = true) : undr l t = none := by
  unfold undr
  rw [List.findIdx?_eq_none_iff]
  intro x hx
  have := List.all_eq_true.1 ha x hx
  simp at this ⊢
  intro h0
  rcases this with h | h
  · exact absurd h0 h
  · exact h
set_option maxHeartbeats 1000000 in
set_option maxRecDepth 100000 in
theorem under_c (A : Option Addr) (c : Nat) (l : List Rw) (t : Int) (w : World) (hl : Kd.C k40 w A l.length l) :
    Calls Tryd.prog 31 #[.slice A l.length c, .int .i64 t] w fun e w' => e = .returned (.int .i64 (unI (undr l t))) ∧ w' = w := by
  have hlen := Kd.C_max hl
  have h1 := Tryd.underlying40
  have HL := Aside0.mk hl
  clear hl
  go_enter Tryd.func31, Tryd.ntmps31
  go_wp2
  go_loopw [5] (fun i wr => ∃ k : Nat, k ≤ l.length ∧ i = .int .i64 k ∧ wr = w ∧ (l.take k).all (fun r => !(r.f0 == t && !r.f5)) = true) (fun i _ => l.length - (intOf i).toNat)
  case atStart => exact ⟨0, Nat.zero_le _, rfl, rfl, rfl⟩
  case round =>
    obtain ⟨k, hkl, rfl, rfl, hs⟩ := hrel
    have HS := Aside0.mk hs
    clear hs
    by_cases hlt : k < l.length
    · obtain ⟨ad, eA, q0, q1, q2, q3, q4, q5, q6, q7, q8, q9⟩ := at_T40 HL.out (k : Int) (by omega) (by omega)
      simp only [Int.toNat_natCast] at q0 q1 q2 q3 q4 q5 q6 q7 q8 q9
      cases eA
      obtain ⟨x, hx⟩ : ∃ x, x = rd_T40 l (k : Int) := ⟨_, rfl⟩
      rw [← hx] at q0 q1 q2 q3 q4 q5 q6 q7 q8 q9
      have hg : l.getD k z40 = x := by rw [hx]; simp [rd_T40]
      have h3 := all_snoc l (fun r => !(r.f0 == t && !r.f5)) z40 k hlt
      rw [hg] at h3
      have h4 := undr_at l t k hlt HS.out
      rw [hg] at h4
      obtain ⟨b5, hb5⟩ : ∃ b, b = x.f5 := ⟨_, rfl⟩
      rw [← hb5] at q9 h3 h4
      have H3 := Aside0.mk h3
      clear h3
      have H4 := Aside0.mk h4
      clear h4
      have HX := Aside0.mk hx
      clear hx
      have HG := Aside0.mk hg
      clear hg
      have HB5 := Aside0.mk hb5
      clear hb5
      by_cases hq : x.f0 = t
      · have hqq : (x.f0 == t) = true := by simp [hq]
        cases b5
        · have h5 := H4.out (by rw [hqq]; rfl)
          have H5 := Aside0.mk h5
          clear hq h5
          go_wp2
          go_ret
          exact ⟨by rw [H5.out]; rfl, by first | trivial | rfl⟩
        · have h5 : (l.take (k + 1)).all (fun r => !(r.f0 == t && !r.f5)) = true := by rw [H3.out, HS.out]; simp
          have H5 := Aside0.mk h5
          clear hq h5
          go_wp2
          go_roundw
          case rel => exact ⟨k + 1, by omega, by go_num, by first | trivial | rfl, H5.out⟩
          case measure => simp [intOf]; omega
      · have hqq : (x.f0 == t) = false := by simp [hq]
        have h5 : (l.take (k + 1)).all (fun r => !(r.f0 == t && !r.f5)) = true := by rw [H3.out, HS.out, hqq]; simp
        have H5 := Aside0.mk h5
        clear hq h5
        go_wp2
        go_roundw
        case rel => exact ⟨k + 1, by omega, by go_num, by first | trivial | rfl, H5.out⟩
        case measure => simp [intOf]; omega
    · go_wp2
      go_ret
      have hk' : k = l.length := by omega
      subst hk'
      have hs := HS.out
      rw [List.take_length] at hs
      exact ⟨by rw [undr_no l t hs]; rfl, by first | trivial | rfl⟩
set_option maxRecDepth 100000 in
theorem rahead_c (r s : Rw) (w : World) : Calls Tryd.prog 23 #[v40 r, v40 s] w fun e w' => e = .returned (.bool (aheadB r s)) ∧ Below w.heap.size w w' := by
  have h1 := Tryd.underlying40
  obtain ⟨r0, r1, r2, r3, r4, r5⟩ := r
  unfold v40
  cases r5
  all_goals
    go_enter Tryd.func23, Tryd.ntmps23
    go_wp2
    go_ret
    exact ⟨rfl, below_alloc (below_alloc (Below.refl _ _) _) _⟩
theorem filter_snoc2 (l : List Rw) (k : Nat) (h : k < l.length) (x : Rw) (hx : l.getD k z40 = x) : ((l.take (k + 1)).filter fun r => r.f5) = ((l.take k).filter fun r => r.f5) ++ (if x.f5 then [x] else []) := by
  rw [filter_snoc l (fun r => r.f5) z40 k h, hx]
set_option maxHeartbeats 1000000 in
set_option maxRecDepth 100000 in
theorem rwhole_c (A : Option Addr) (c : Nat) (l : List Rw) (w : World) (hl : Kd.C k40 w A l.length l) (hlim : l.length ≤ 1000000) :
    Calls Tryd.prog 22 #[.slice A l.length c] w fun e w' => ∃ v, e = .returned v ∧ Kd.R k40 40 w' w.heap.size (fun _ => True) v (l.filter fun r => r.f5) ∧ Below w.heap.size w w' := by
  have hlen := Kd.C_max hl
  have h1 := Tryd.underlying40
  have h2 := Tryd.underlying36
  have h3 := Tryd.underlying38
  have HR0 := Aside0.mk (R_lit_alloc k40 40 (base := w.heap.size) w (Nat.le_refl _) (xs := []) (inner := []) (Reps.none _ _) (by simp))
  have HL := Aside0.mk hl
  clear hl
  go_enter Tryd.func22, Tryd.ntmps22
  go_wp2
  go_loopw [3, 4] (fun v i wr => ∃ (k : Nat) (v1 : Value), v1 = v ∧ k ≤ l.length ∧ i = .int .i64 k ∧ Kd.R k40 40 wr w.heap.size (fun _ => True) v1 ((l.take k).filter fun r => r.f5) ∧ Below w.heap.size w wr) (fun _ i _ => l.length - (intOf i).toNat)
  case atStart => exact ⟨0, _, rfl, Nat.zero_le _, rfl, HR0.out, below_alloc (Below.refl _ _) _⟩
  case round =>
    obtain ⟨k, v1, hv1, hkl, rfl, hv, hb⟩ := hrel
    subst hv1
    clear HR0
    have HV := Aside0.mk hv
    clear hv
    have HB := Aside0.mk hb
    clear hb
    by_cases hlt : k < l.length
    · obtain ⟨ad, eA, q0, q1, q2, q3, q4, q5, q6, q7, q8, q9⟩ := at_T40 HL.out (k : Int) (by omega) (by omega)
      replace q0 := pw_cell_below HB.out q0
      replace q1 := pw_cell_below HB.out q1
      replace q2 := pw_cell_below HB.out q2
      replace q3 := pw_cell_below HB.out q3
      replace q4 := pw_cell_below HB.out q4
      replace q5 := pw_cell_below HB.out q5
      replace q6 := pw_cell_below HB.out q6
      replace q7 := pw_cell_below HB.out q7
      replace q8 := pw_cell_below HB.out q8
      replace q9 := pw_cell_below HB.out q9
      simp only [Int.toNat_natCast] at q0 q1 q2 q3 q4 q5 q6 q7 q8 q9
      cases eA
      obtain ⟨x, hx⟩ : ∃ x, x = rd_T40 l (k : Int) := ⟨_, rfl⟩
      rw [← hx] at q0 q1 q2 q3 q4 q5 q6 q7 q8 q9
      have f1 := filter_snoc2 l k hlt x (by rw [hx]; simp [rd_T40])
      have n1 : ((l.take k).filter fun r => r.f5).length ≤ k := Nat.le_trans (List.length_filter_le _ _) (by simp; omega)
      obtain ⟨out, hout⟩ : ∃ out, out = ((l.take k).filter fun r => r.f5) := ⟨_, rfl⟩
      rw [← hout] at f1 n1
      have HV1 : Aside0 (Kd.R k40 40 wr w.heap.size (fun _ => True) v1 out) := Aside0.mk (by rw [hout]; exact HV.out)
      clear HV hout hx
      have F1 := Aside0.mk f1
      clear f1
      obtain ⟨x0, x1, x2, x3, x4, b5⟩ := x
      simp only [] at q0 q1 q2 q3 q4 q5 q6 q7 q8 q9
      cases b5
      · have f2 := F1.out
        simp only [Bool.false_eq_true, if_false, List.append_nil] at f2
        have F2 := Aside0.mk f2
        clear f2 F1
        go_wp2
        go_roundw
        case rel => exact ⟨k + 1, _, rfl, by omega, by go_num, by rw [F2.out]; exact HV1.out, HB.out⟩
        case measure => simp [intOf]; omega
      · have f2 := F1.out
        simp only [if_true] at f2
        have F2 := Aside0.mk f2
        clear f2 F1
        go_wp2_with ((with_reducible refine gate_builtin (b := .append) (xs := #[.tmp 17, .tmp 22]) rfl ?_); at_builtin; refine Kd.R_append k40 (w0 := w) w.heap.size rfl (.tmp 17) (.tmp 22) 23 40 _ _ rfl Tryd.underlying23 info40 rfl (by decide) (by first | omega | (simp only [List.length_append, List.length_cons, List.length_nil]; omega)) v1 (out) (⟨x0, x1, x2, x3, x4, true⟩) (c40 (⟨x0, x1, x2, x3, x4, true⟩)) (fun _ => True) (fun _ => False) rfl (by first | (go_simp; done) | (go_simp; rfl)) (k40_mkM _ _ _ _) (fun _ hk => hk.elim) (fun _ _ => trivial) HV1.out HB.out (below_size HB.out) (by first | omega | (simp only [List.length_append, List.length_cons, List.length_nil]; omega)) ?_; intro v3 w3 ho hb hg hat)
        have HU := Aside0.mk ho
        have HB2 := Aside0.mk hb
        clear ho hb hg hat
        go_roundw
        case rel => exact ⟨k + 1, _, rfl, by omega, by go_num, by rw [F2.out]; exact HU.out, HB2.out⟩
        case measure => simp [intOf]; omega
    · go_wp2
      go_ret
      have hk' : k = l.length := by omega
      subst hk'
      have g1 := HV.out
      rw [List.take_length] at g1
      exact ⟨_, rfl, g1, HB.out⟩
theorem R_name {α : Type} {d : Kd α} {e base : Nat} {ok : Nat → Prop} {w : World} {v : Value} {xs : List α} (h : Kd.R d e w base ok v xs) : ∃ z, z = v ∧ Kd.R d e w base ok z xs := ⟨v, rfl, h⟩
def rev6.T6 : Bool × List (List Nat × List Nat) := (true, [([], []), ([], []), ([], []), ([1, 2], [1, 2]), ([3], [3]), ([4], [4]), ([], []), ([], []), ([6, 7], [6, 7]), ([8], [8]), ([9], [9]), ([5, 10], [5, 10]), ([11], [11]), ([0, 12], [0, 12]), ([13, 13, 0, 1, 2, 3, 4, 5, 6, 7, 8, 9, 10, 11, 12, 13], [0, 13])])
def rev6.B6 : List Nat := [0, 0, 0, 6, 14, 30, 0, 0, 192, 448, 960, 2046, 4094, 8191, 16383]
theorem rev6.tab6 : rtab .any (opsOf Tryd.f18 6) = rev6.T6 := by kernel_rfl
theorem rev6.bits6 : waitsOk rev6.T6.2 rev6.B6 = true := by kernel_rfl
def rev8.T8 : Bool × List (List Nat × List Nat) := (true, [([], []), ([], []), ([], []), ([1, 2], [1, 2]), ([3], [3]), ([4], [4]), ([], []), ([], []), ([6, 7], [6, 7]), ([8], [8]), ([9], [9]), ([5, 10], [5, 10]), ([11], [11]), ([0, 12], [0, 12]), ([13, 13, 0, 1, 2, 3, 4, 5, 6, 7, 8, 9, 10, 11, 12, 13], [0, 13])])
def rev8.B8 : List Nat := [0, 0, 0, 6, 14, 30, 0, 0, 192, 448, 960, 2046, 4094, 8191, 16383]
theorem rev8.tab8 : rtab .any (opsOf Tryd.f18 8) = rev8.T8 := by kernel_rfl
theorem rev8.bits8 : waitsOk rev8.T8.2 rev8.B8 = true := by kernel_rfl
set_option maxHeartbeats 2000000 in
set_option maxRecDepth 100000 in
theorem revents_c (A : Option Addr) (c : Nat) (l : List Bt) (w : World) (hl : Kd.C k48 w A l.length l) (hlim : l.length ≤ 1000000) :
    Calls Tryd.prog 18 #[.slice A l.length c] w fun e w' => ∃ v : Value, e = .returned v ∧ Kd.R k44 44 w' w.heap.size (fun _ => True) v (evsM l) ∧ Below w.heap.size w w' := by
  have h1 := Tryd.underlying44
  have h2 := Tryd.underlying48
  have h3 := Tryd.underlying36
  have h4 := Tryd.underlying38
  have hlen := Kd.C_max hl
  have HR0 := Aside0.mk (R_lit_alloc k44 44 (base := w.heap.size) w (Nat.le_refl _) (xs := []) (inner := []) (Reps.none _ _) (by simp))
  have HL := Aside0.mk hl
  clear hl
  go_enter Tryd.func18, Tryd.ntmps18
  go_wp2
  go_loopw [3, 4] (fun v i wr => ∃ (k : Nat) (v1 : Value), v1 = v ∧ k ≤ l.length ∧ i = .int .i64 k ∧ Kd.R k44 44 wr w.heap.size (fun _ => True) v1 (evsM (l.take k)) ∧ Below w.heap.size w wr) (fun _ i _ => l.length - (intOf i).toNat)
  case atStart => exact ⟨0, _, rfl, Nat.zero_le _, rfl, HR0.out, below_alloc (Below.refl _ _) _⟩
  case round =>
    obtain ⟨k, v1, hv1, hkl, rfl, hv, hb⟩ := hrel
    subst hv1
    clear HR0
    have HV := Aside0.mk hv
    clear hv
    have HB := Aside0.mk hb
    clear hb
    by_cases hlt : k < l.length
    · obtain ⟨ad, eA, r0, r1, r2, r3, r4, r5, r6, r7, r8, r9⟩ := at_T48 HL.out (k : Int) (by omega) (by omega)
      simp only [Int.toNat_natCast] at r0 r1 r2 r3 r4 r5 r6 r7 r8 r9
      cases eA
      have f1 := evsM_snoc l k hlt
      have n1 : (evsM (l.take k)).length ≤ 2 * k := Nat.le_trans (evsM_length _) (by simp; omega)
      obtain ⟨x, hx⟩ : ∃ x, x = rd_T48 l (k : Int) := ⟨_, rfl⟩
      rw [← hx] at r0 r1 r2 r3 r4 r5 r6 r7 r8 r9 f1
      obtain ⟨out, hout⟩ : ∃ out, out = evsM (l.take k) := ⟨_, rfl⟩
      rw [← hout] at f1 n1
      have HV1 : Aside0 (Kd.R k44 44 wr w.heap.size (fun _ => True) v1 out) := Aside0.mk (by rw [hout]; exact HV.out)
      have HOL : Aside0 (out.length ≤ 2000001) := Aside0.mk (by omega)
      clear HV hout hx
      have hkb : k < 1000000 := by omega
      unfold evB at f1
      cases t1 : x.f1
      · cases t2 : x.f4
        · rw [t1] at r1 f1
          rw [t2] at r7 f1
          have q1 := pw_cell_below HB.out r1
          have q7 := pw_cell_below HB.out r7
          have F2 : Aside0 (evsM (l.take (k + 1)) = out) := Aside0.mk (by rw [f1]; simp)
          clear f1
          go_wp2
          go_roundw
          case rel => exact ⟨k + 1, _, rfl, by omega, by go_num, by rw [F2.out]; exact HV1.out, HB.out⟩
          case measure => simp [intOf]; omega
        · rw [t1] at r1 f1
          rw [t2] at r7 f1
          have q1 := pw_cell_below HB.out r1
          have q7 := pw_cell_below HB.out r7
          have F2 : Aside0 (evsM (l.take (k + 1)) = out ++ [⟨x.f0, false, z36, x.f5⟩]) := Aside0.mk (by rw [f1]; simp)
          clear f1
          go_wp2
          clear q1 q7
          obtain ⟨v36_, hv_⟩ : ∃ z, z = v1 := ⟨_, rfl⟩
          rw [← hv_] at HV1 ⊢
          have RO36 := HV1
          have QQ0 := Aside0.mk r0
          have QQ1 := Aside0.mk r1
          have QQ2 := Aside0.mk r2
          have QQ3 := Aside0.mk r3
          have QQ4 := Aside0.mk r4
          have QQ5 := Aside0.mk r5
          have QQ6 := Aside0.mk r6
          have QQ7 := Aside0.mk r7
          have QQ8 := Aside0.mk r8
          have QQ9 := Aside0.mk r9
          clear hv_ HV1 r0 r1 r2 r3 r4 r5 r6 r7 r8 r9
          refine start_ (n := 15) (S := fun w' => True) (ds := []) #[false, false, false, false, false, false, false, false, false, false, false, false, false, false, false] (by kernel_rfl) rfl rfl trivial (fun hHeld => ?_)
          refine with_tabW rev8.tab8 rev8.bits8 (fun HT_ HW_ => ?_)
          have HBr := Aside0.mk (below_drew1 HB.out)
          refine inv_at [0, 1, 2, 3, 4, 5, 6, 7, 8, 9, 10, 11, 12, 13, 14] (fun a0_ b a w' => ∃ (g48_ : Nat) (v49_ : Value) (m12_ : Value) (m14_ : Value), a = putSel a0_ b [(0, 36, v36_), (1, 37, .slice (some ad) l.length c), (2, 38, .int .i64 (k : Int)), (3, 39, .pointer (some (ad.add (k * 10)))), (4, 40, .pointer (some (ad.add (k * 10)))), (5, 41, .int .i64 x.f0), (6, 42, .slice (some ad) l.length c), (7, 43, .int .i64 (k : Int)), (8, 44, .pointer (some (ad.add (k * 10)))), (9, 45, .pointer (some ⟨((ad.add (k * 10))).block, ((ad.add (k * 10))).off + 8, none⟩)), (10, 46, .agg #[.int .i64 x.f5.f0, .int .i64 x.f5.f1]), (11, 47, .agg #[.int .i64 x.f0, .bool false, .int .i64 0, .int .i64 0, .int .i64 0, .int .i64 0, .int .i64 x.f5.f0, .int .i64 x.f5.f1]), (12, 48, m12_), (13, 49, v49_), (14, 3, m14_)] ∧ (Below w.heap.size w w') ∧ (b 13 = false → Kd.R k44 44 w' w.heap.size (fun _ => True) v36_ (out)) ∧ (b 12 = true → w'.heap[g48_]? = some (.cells #[.int .i64 x.f0, .bool false, .int .i64 0, .int .i64 0, .int .i64 0, .int .i64 0, .int .i64 x.f5.f0, .int .i64 x.f5.f1] 44 (0, 0))) ∧ (b 13 = true → Kd.R k44 44 w' w.heap.size (fun _ => True) v49_ (out ++ [⟨x.f0, false, z36, x.f5⟩])) ∧ (b 12 = true → b 13 = false → some g48_ ≠ v36_.ownBlock) ∧ (b 12 = true → (m12_ : Value) = .slice (some ⟨g48_, 0, none⟩) 1 1) ∧ (b 14 = true → (m14_ : Value) = v49_)) HT_.out HW_.out (by kernel_rfl) (by kernel_rfl) ?_ ?_ ?_
          · exact ⟨0, .bool false, .bool false, .bool false, by simp only [putSel, Bool.false_eq_true, if_false], HBr.out, fun _ => RO36.out, fun h_ => absurd h_ (by decide), fun h_ => absurd h_ (by decide), fun h_ => absurd h_ (by decide), fun h_ => absurd h_ (by decide), fun h_ => absurd h_ (by decide)⟩
          · skip
            clear HBr RO36
            refine steps_cons ?_ ?_
            · rintro b a w' ⟨g48_, v49_, m12_, m14_, ha, Q_HBr, Q_RO36, Q_BL48, Q_RO49, Q_NE36_48, Q_X12_, Q_X14_⟩ hb_ hon hoff
              refine ⟨_, rfl, fun K hK => ?_⟩
              have e3 : a.tmps[3]? = some (v36_) := by rw [ha]; exact (putSel_not (hoff 14 (by kernel_rfl)) rfl).trans rfl
              replace ha := Aside0.mk ha
              have HBr := Aside0.mk Q_HBr
              have RO36 := Aside0.mk (Q_RO36 (hoff 13 (by kernel_rfl)))
              refine value_ (w1 := w') (v := v36_) ?cA ?cB ?_ ?_
              case cA => rfl
              case cB => rfl
              · go_simp
                (try simp only [i64_w])
                try rfl
              refine hK.out _ _ ⟨g48_, v49_, m12_, m14_, (by rw [ha.out]; exact putSel_upk 0 hb_ rfl rfl rfl), Q_HBr, Q_RO36, Q_BL48, fun h0_ => absurd ((hoff 13 (by kernel_rfl)).symm.trans h0_) (by decide), Q_NE36_48, Q_X12_, fun h0_ => absurd ((hoff 14 (by kernel_rfl)).symm.trans h0_) (by decide)⟩
            refine steps_cons ?_ ?_
            · rintro b a w' ⟨g48_, v49_, m12_, m14_, ha, Q_HBr, Q_RO36, Q_BL48, Q_RO49, Q_NE36_48, Q_X12_, Q_X14_⟩ hb_ hon hoff
              refine ⟨_, rfl, fun K hK => ?_⟩
              have e0 : a.tmps[0]? = some (.slice (some ad) l.length c) := by rw [ha]; exact (putSel_off rfl).trans rfl
              replace ha := Aside0.mk ha
              have HBr := Aside0.mk Q_HBr
              have RO36 := Aside0.mk (Q_RO36 (hoff 13 (by kernel_rfl)))
              refine value_ (w1 := w') (v := .slice (some ad) l.length c) ?cA ?cB ?_ ?_
              case cA => rfl
              case cB => rfl
              · go_simp
                (try simp only [i64_w])
                try rfl
              refine hK.out _ _ ⟨g48_, v49_, m12_, m14_, (by rw [ha.out]; exact putSel_upk 1 hb_ rfl rfl rfl), Q_HBr, Q_RO36, fun h0_ => absurd ((hoff 12 (by kernel_rfl)).symm.trans h0_) (by decide), fun h0_ => absurd ((hoff 13 (by kernel_rfl)).symm.trans h0_) (by decide), fun h0_ _ => absurd ((hoff 12 (by kernel_rfl)).symm.trans h0_) (by decide), fun h0_ => absurd ((hoff 12 (by kernel_rfl)).symm.trans h0_) (by decide), fun h0_ => absurd ((hoff 14 (by kernel_rfl)).symm.trans h0_) (by decide)⟩
            refine steps_cons ?_ ?_
            · rintro b a w' ⟨g48_, v49_, m12_, m14_, ha, Q_HBr, Q_RO36, Q_BL48, Q_RO49, Q_NE36_48, Q_X12_, Q_X14_⟩ hb_ hon hoff
              refine ⟨_, rfl, fun K hK => ?_⟩
              have e4 : a.tmps[4]? = some (.int .i64 (k : Int)) := by rw [ha]; exact (putSel_off rfl).trans rfl
              replace ha := Aside0.mk ha
              have HBr := Aside0.mk Q_HBr
              have RO36 := Aside0.mk (Q_RO36 (hoff 13 (by kernel_rfl)))
              refine value_ (w1 := w') (v := .int .i64 (k : Int)) ?cA ?cB ?_ ?_
              case cA => rfl
              case cB => rfl
              · go_simp
                (try simp only [i64_w])
                try rfl
              refine hK.out _ _ ⟨g48_, v49_, m12_, m14_, (by rw [ha.out]; exact putSel_upk 2 hb_ rfl rfl rfl), Q_HBr, Q_RO36, fun h0_ => absurd ((hoff 12 (by kernel_rfl)).symm.trans h0_) (by decide), fun h0_ => absurd ((hoff 13 (by kernel_rfl)).symm.trans h0_) (by decide), fun h0_ _ => absurd ((hoff 12 (by kernel_rfl)).symm.trans h0_) (by decide), fun h0_ => absurd ((hoff 12 (by kernel_rfl)).symm.trans h0_) (by decide), fun h0_ => absurd ((hoff 14 (by kernel_rfl)).symm.trans h0_) (by decide)⟩
            refine steps_cons ?_ ?_
            · rintro b a w' ⟨g48_, v49_, m12_, m14_, ha, Q_HBr, Q_RO36, Q_BL48, Q_RO49, Q_NE36_48, Q_X12_, Q_X14_⟩ hb_ hon hoff
              refine ⟨_, rfl, fun K hK => ?_⟩
              have e37 : a.tmps[37]? = some (.slice (some ad) l.length c) := by rw [ha]; exact putSel_on (e := (1, 37, .slice (some ad) l.length c)) 1 rfl rfl (hon 1 (by kernel_rfl)) rfl
              have e38 : a.tmps[38]? = some (.int .i64 (k : Int)) := by rw [ha]; exact putSel_on (e := (2, 38, .int .i64 (k : Int))) 2 rfl rfl (hon 2 (by kernel_rfl)) rfl
              replace ha := Aside0.mk ha
              have HBr := Aside0.mk Q_HBr
              have RO36 := Aside0.mk (Q_RO36 (hoff 13 (by kernel_rfl)))
              refine value_ (w1 := w') (v := .pointer (some (ad.add (k * 10)))) ?cA ?cB ?_ ?_
              case cA => rfl
              case cB => rfl
              · go_simp
                (try simp only [i64_w])
                try rfl
              refine hK.out _ _ ⟨g48_, v49_, m12_, m14_, (by rw [ha.out]; exact putSel_upk 3 hb_ rfl rfl rfl), Q_HBr, Q_RO36, fun h0_ => absurd ((hoff 12 (by kernel_rfl)).symm.trans h0_) (by decide), fun h0_ => absurd ((hoff 13 (by kernel_rfl)).symm.trans h0_) (by decide), fun h0_ _ => absurd ((hoff 12 (by kernel_rfl)).symm.trans h0_) (by decide), fun h0_ => absurd ((hoff 12 (by kernel_rfl)).symm.trans h0_) (by decide), fun h0_ => absurd ((hoff 14 (by kernel_rfl)).symm.trans h0_) (by decide)⟩
            refine steps_cons ?_ ?_
            · rintro b a w' ⟨g48_, v49_, m12_, m14_, ha, Q_HBr, Q_RO36, Q_BL48, Q_RO49, Q_NE36_48, Q_X12_, Q_X14_⟩ hb_ hon hoff
              refine ⟨_, rfl, fun K hK => ?_⟩
              have e39 : a.tmps[39]? = some (.pointer (some (ad.add (k * 10)))) := by rw [ha]; exact putSel_on (e := (3, 39, .pointer (some (ad.add (k * 10))))) 3 rfl rfl (hon 3 (by kernel_rfl)) rfl
              replace ha := Aside0.mk ha
              have HBr := Aside0.mk Q_HBr
              have RO36 := Aside0.mk (Q_RO36 (hoff 13 (by kernel_rfl)))
              refine value_ (w1 := w') (v := .pointer (some (ad.add (k * 10)))) ?cA ?cB ?_ ?_
              case cA => rfl
              case cB => rfl
              · go_simp
                (try simp only [i64_w])
                try rfl
              refine hK.out _ _ ⟨g48_, v49_, m12_, m14_, (by rw [ha.out]; exact putSel_upk 4 hb_ rfl rfl rfl), Q_HBr, Q_RO36, fun h0_ => absurd ((hoff 12 (by kernel_rfl)).symm.trans h0_) (by decide), fun h0_ => absurd ((hoff 13 (by kernel_rfl)).symm.trans h0_) (by decide), fun h0_ _ => absurd ((hoff 12 (by kernel_rfl)).symm.trans h0_) (by decide), fun h0_ => absurd ((hoff 12 (by kernel_rfl)).symm.trans h0_) (by decide), fun h0_ => absurd ((hoff 14 (by kernel_rfl)).symm.trans h0_) (by decide)⟩
            refine steps_cons ?_ ?_
            · rintro b a w' ⟨g48_, v49_, m12_, m14_, ha, Q_HBr, Q_RO36, Q_BL48, Q_RO49, Q_NE36_48, Q_X12_, Q_X14_⟩ hb_ hon hoff
              refine ⟨_, rfl, fun K hK => ?_⟩
              have e40 : a.tmps[40]? = some (.pointer (some (ad.add (k * 10)))) := by rw [ha]; exact putSel_on (e := (4, 40, .pointer (some (ad.add (k * 10))))) 4 rfl rfl (hon 4 (by kernel_rfl)) rfl
              replace ha := Aside0.mk ha
              have HBr := Aside0.mk Q_HBr
              have RO36 := Aside0.mk (Q_RO36 (hoff 13 (by kernel_rfl)))
              have z0_ := pw_cell_below HBr.out QQ0.out
              refine value_ (w1 := w') (v := .int .i64 x.f0) ?cA ?cB ?_ ?_
              case cA => rfl
              case cB => rfl
              · go_simp
                (try simp only [i64_w])
                try rfl
              refine hK.out _ _ ⟨g48_, v49_, m12_, m14_, (by rw [ha.out]; exact putSel_upk 5 hb_ rfl rfl rfl), Q_HBr, Q_RO36, fun h0_ => absurd ((hoff 12 (by kernel_rfl)).symm.trans h0_) (by decide), fun h0_ => absurd ((hoff 13 (by kernel_rfl)).symm.trans h0_) (by decide), fun h0_ _ => absurd ((hoff 12 (by kernel_rfl)).symm.trans h0_) (by decide), fun h0_ => absurd ((hoff 12 (by kernel_rfl)).symm.trans h0_) (by decide), fun h0_ => absurd ((hoff 14 (by kernel_rfl)).symm.trans h0_) (by decide)⟩
            refine steps_cons ?_ ?_
            · rintro b a w' ⟨g48_, v49_, m12_, m14_, ha, Q_HBr, Q_RO36, Q_BL48, Q_RO49, Q_NE36_48, Q_X12_, Q_X14_⟩ hb_ hon hoff
              refine ⟨_, rfl, fun K hK => ?_⟩
              have e0 : a.tmps[0]? = some (.slice (some ad) l.length c) := by rw [ha]; exact (putSel_off rfl).trans rfl
              replace ha := Aside0.mk ha
              have HBr := Aside0.mk Q_HBr
              have RO36 := Aside0.mk (Q_RO36 (hoff 13 (by kernel_rfl)))
              refine value_ (w1 := w') (v := .slice (some ad) l.length c) ?cA ?cB ?_ ?_
              case cA => rfl
              case cB => rfl
              · go_simp
                (try simp only [i64_w])
                try rfl
              refine hK.out _ _ ⟨g48_, v49_, m12_, m14_, (by rw [ha.out]; exact putSel_upk 6 hb_ rfl rfl rfl), Q_HBr, Q_RO36, fun h0_ => absurd ((hoff 12 (by kernel_rfl)).symm.trans h0_) (by decide), fun h0_ => absurd ((hoff 13 (by kernel_rfl)).symm.trans h0_) (by decide), fun h0_ _ => absurd ((hoff 12 (by kernel_rfl)).symm.trans h0_) (by decide), fun h0_ => absurd ((hoff 12 (by kernel_rfl)).symm.trans h0_) (by decide), fun h0_ => absurd ((hoff 14 (by kernel_rfl)).symm.trans h0_) (by decide)⟩
            refine steps_cons ?_ ?_
            · rintro b a w' ⟨g48_, v49_, m12_, m14_, ha, Q_HBr, Q_RO36, Q_BL48, Q_RO49, Q_NE36_48, Q_X12_, Q_X14_⟩ hb_ hon hoff
              refine ⟨_, rfl, fun K hK => ?_⟩
              have e4 : a.tmps[4]? = some (.int .i64 (k : Int)) := by rw [ha]; exact (putSel_off rfl).trans rfl
              replace ha := Aside0.mk ha
              have HBr := Aside0.mk Q_HBr
              have RO36 := Aside0.mk (Q_RO36 (hoff 13 (by kernel_rfl)))
              refine value_ (w1 := w') (v := .int .i64 (k : Int)) ?cA ?cB ?_ ?_
              case cA => rfl
              case cB => rfl
              · go_simp
                (try simp only [i64_w])
                try rfl
              refine hK.out _ _ ⟨g48_, v49_, m12_, m14_, (by rw [ha.out]; exact putSel_upk 7 hb_ rfl rfl rfl), Q_HBr, Q_RO36, fun h0_ => absurd ((hoff 12 (by kernel_rfl)).symm.trans h0_) (by decide), fun h0_ => absurd ((hoff 13 (by kernel_rfl)).symm.trans h0_) (by decide), fun h0_ _ => absurd ((hoff 12 (by kernel_rfl)).symm.trans h0_) (by decide), fun h0_ => absurd ((hoff 12 (by kernel_rfl)).symm.trans h0_) (by decide), fun h0_ => absurd ((hoff 14 (by kernel_rfl)).symm.trans h0_) (by decide)⟩
            refine steps_cons ?_ ?_
            · rintro b a w' ⟨g48_, v49_, m12_, m14_, ha, Q_HBr, Q_RO36, Q_BL48, Q_RO49, Q_NE36_48, Q_X12_, Q_X14_⟩ hb_ hon hoff
              refine ⟨_, rfl, fun K hK => ?_⟩
              have e42 : a.tmps[42]? = some (.slice (some ad) l.length c) := by rw [ha]; exact putSel_on (e := (6, 42, .slice (some ad) l.length c)) 6 rfl rfl (hon 6 (by kernel_rfl)) rfl
              have e43 : a.tmps[43]? = some (.int .i64 (k : Int)) := by rw [ha]; exact putSel_on (e := (7, 43, .int .i64 (k : Int))) 7 rfl rfl (hon 7 (by kernel_rfl)) rfl
              replace ha := Aside0.mk ha
              have HBr := Aside0.mk Q_HBr
              have RO36 := Aside0.mk (Q_RO36 (hoff 13 (by kernel_rfl)))
              refine value_ (w1 := w') (v := .pointer (some (ad.add (k * 10)))) ?cA ?cB ?_ ?_
              case cA => rfl
              case cB => rfl
              · go_simp
                (try simp only [i64_w])
                try rfl
              refine hK.out _ _ ⟨g48_, v49_, m12_, m14_, (by rw [ha.out]; exact putSel_upk 8 hb_ rfl rfl rfl), Q_HBr, Q_RO36, fun h0_ => absurd ((hoff 12 (by kernel_rfl)).symm.trans h0_) (by decide), fun h0_ => absurd ((hoff 13 (by kernel_rfl)).symm.trans h0_) (by decide), fun h0_ _ => absurd ((hoff 12 (by kernel_rfl)).symm.trans h0_) (by decide), fun h0_ => absurd ((hoff 12 (by kernel_rfl)).symm.trans h0_) (by decide), fun h0_ => absurd ((hoff 14 (by kernel_rfl)).symm.trans h0_) (by decide)⟩
            refine steps_cons ?_ ?_
            · rintro b a w' ⟨g48_, v49_, m12_, m14_, ha, Q_HBr, Q_RO36, Q_BL48, Q_RO49, Q_NE36_48, Q_X12_, Q_X14_⟩ hb_ hon hoff
              refine ⟨_, rfl, fun K hK => ?_⟩
              have e44 : a.tmps[44]? = some (.pointer (some (ad.add (k * 10)))) := by rw [ha]; exact putSel_on (e := (8, 44, .pointer (some (ad.add (k * 10))))) 8 rfl rfl (hon 8 (by kernel_rfl)) rfl
              replace ha := Aside0.mk ha
              have HBr := Aside0.mk Q_HBr
              have RO36 := Aside0.mk (Q_RO36 (hoff 13 (by kernel_rfl)))
              refine value_ (w1 := w') (v := .pointer (some ⟨((ad.add (k * 10))).block, ((ad.add (k * 10))).off + 8, none⟩)) ?cA ?cB ?_ ?_
              case cA => rfl
              case cB => rfl
              · go_simp
                (try simp only [i64_w])
                try rfl
              refine hK.out _ _ ⟨g48_, v49_, m12_, m14_, (by rw [ha.out]; exact putSel_upk 9 hb_ rfl rfl rfl), Q_HBr, Q_RO36, fun h0_ => absurd ((hoff 12 (by kernel_rfl)).symm.trans h0_) (by decide), fun h0_ => absurd ((hoff 13 (by kernel_rfl)).symm.trans h0_) (by decide), fun h0_ _ => absurd ((hoff 12 (by kernel_rfl)).symm.trans h0_) (by decide), fun h0_ => absurd ((hoff 12 (by kernel_rfl)).symm.trans h0_) (by decide), fun h0_ => absurd ((hoff 14 (by kernel_rfl)).symm.trans h0_) (by decide)⟩
            refine steps_cons ?_ ?_
            · rintro b a w' ⟨g48_, v49_, m12_, m14_, ha, Q_HBr, Q_RO36, Q_BL48, Q_RO49, Q_NE36_48, Q_X12_, Q_X14_⟩ hb_ hon hoff
              refine ⟨_, rfl, fun K hK => ?_⟩
              have e45 : a.tmps[45]? = some (.pointer (some ⟨((ad.add (k * 10))).block, ((ad.add (k * 10))).off + 8, none⟩)) := by rw [ha]; exact putSel_on (e := (9, 45, .pointer (some ⟨((ad.add (k * 10))).block, ((ad.add (k * 10))).off + 8, none⟩))) 9 rfl rfl (hon 9 (by kernel_rfl)) rfl
              replace ha := Aside0.mk ha
              have HBr := Aside0.mk Q_HBr
              have RO36 := Aside0.mk (Q_RO36 (hoff 13 (by kernel_rfl)))
              have z0_ := pw_cell_below HBr.out QQ8.out
              have z1_ := pw_cell_below HBr.out QQ9.out
              refine value_ (w1 := w') (v := .agg #[.int .i64 x.f5.f0, .int .i64 x.f5.f1]) ?cA ?cB ?_ ?_
              case cA => rfl
              case cB => rfl
              · go_simp
                (try simp only [i64_w])
                try rfl
              refine hK.out _ _ ⟨g48_, v49_, m12_, m14_, (by rw [ha.out]; exact putSel_upk 10 hb_ rfl rfl rfl), Q_HBr, Q_RO36, fun h0_ => absurd ((hoff 12 (by kernel_rfl)).symm.trans h0_) (by decide), fun h0_ => absurd ((hoff 13 (by kernel_rfl)).symm.trans h0_) (by decide), fun h0_ _ => absurd ((hoff 12 (by kernel_rfl)).symm.trans h0_) (by decide), fun h0_ => absurd ((hoff 12 (by kernel_rfl)).symm.trans h0_) (by decide), fun h0_ => absurd ((hoff 14 (by kernel_rfl)).symm.trans h0_) (by decide)⟩
            refine steps_cons ?_ ?_
            · rintro b a w' ⟨g48_, v49_, m12_, m14_, ha, Q_HBr, Q_RO36, Q_BL48, Q_RO49, Q_NE36_48, Q_X12_, Q_X14_⟩ hb_ hon hoff
              refine ⟨_, rfl, fun K hK => ?_⟩
              have e41 : a.tmps[41]? = some (.int .i64 x.f0) := by rw [ha]; exact putSel_on (e := (5, 41, .int .i64 x.f0)) 5 rfl rfl (hon 5 (by kernel_rfl)) rfl
              have e46 : a.tmps[46]? = some (.agg #[.int .i64 x.f5.f0, .int .i64 x.f5.f1]) := by rw [ha]; exact putSel_on (e := (10, 46, .agg #[.int .i64 x.f5.f0, .int .i64 x.f5.f1])) 10 rfl rfl (hon 10 (by kernel_rfl)) rfl
              replace ha := Aside0.mk ha
              have HBr := Aside0.mk Q_HBr
              have RO36 := Aside0.mk (Q_RO36 (hoff 13 (by kernel_rfl)))
              refine value_ (w1 := w') (v := .agg #[.int .i64 x.f0, .bool false, .int .i64 0, .int .i64 0, .int .i64 0, .int .i64 0, .int .i64 x.f5.f0, .int .i64 x.f5.f1]) ?cA ?cB ?_ ?_
              case cA => rfl
              case cB => rfl
              · go_simp
                (try simp only [i64_w])
                try rfl
              refine hK.out _ _ ⟨g48_, v49_, m12_, m14_, (by rw [ha.out]; exact putSel_upk 11 hb_ rfl rfl rfl), Q_HBr, Q_RO36, fun h0_ => absurd ((hoff 12 (by kernel_rfl)).symm.trans h0_) (by decide), fun h0_ => absurd ((hoff 13 (by kernel_rfl)).symm.trans h0_) (by decide), fun h0_ _ => absurd ((hoff 12 (by kernel_rfl)).symm.trans h0_) (by decide), fun h0_ => absurd ((hoff 12 (by kernel_rfl)).symm.trans h0_) (by decide), fun h0_ => absurd ((hoff 14 (by kernel_rfl)).symm.trans h0_) (by decide)⟩
            refine steps_cons ?_ ?_
            · rintro b a w' ⟨g48_, v49_, m12_, m14_, ha, Q_HBr, Q_RO36, Q_BL48, Q_RO49, Q_NE36_48, Q_X12_, Q_X14_⟩ hb_ hon hoff
              refine ⟨_, rfl, fun K hK => ?_⟩
              have e47 : a.tmps[47]? = some (.agg #[.int .i64 x.f0, .bool false, .int .i64 0, .int .i64 0, .int .i64 0, .int .i64 0, .int .i64 x.f5.f0, .int .i64 x.f5.f1]) := by rw [ha]; exact putSel_on (e := (11, 47, .agg #[.int .i64 x.f0, .bool false, .int .i64 0, .int .i64 0, .int .i64 0, .int .i64 0, .int .i64 x.f5.f0, .int .i64 x.f5.f1])) 11 rfl rfl (hon 11 (by kernel_rfl)) rfl
              replace ha := Aside0.mk ha
              have HBr := Aside0.mk Q_HBr
              have RO36 := Aside0.mk (Q_RO36 (hoff 13 (by kernel_rfl)))
              refine event_step (w1 := w'.alloc (.cells #[.int .i64 x.f0, .bool false, .int .i64 0, .int .i64 0, .int .i64 0, .int .i64 0, .int .i64 x.f5.f0, .int .i64 x.f5.f1] 44)) (v := .slice (some ⟨w'.heap.size, 0, none⟩) 1 1) (by rfl) ?_ ?_
              · go_simp
                try rfl
              refine hK.out _ _ ⟨w'.heap.size, v49_, (.slice (some ⟨w'.heap.size, 0, none⟩) 1 1), m14_, (by rw [ha.out]; exact putSel_upk 12 hb_ rfl rfl rfl), below_step HBr.out (below_alloc (Below.refl w'.heap.size w') _), fun _ => Kd.R_below RO36.out (below_alloc (Below.refl w'.heap.size w') _), fun _ => blk_new w' _, fun h0_ => absurd ((hoff 13 (by kernel_rfl)).symm.trans h0_) (by decide), fun _ h2_ => Kd.fresh_ok (Q_RO36 h2_) _ (Nat.le_refl _), fun _ => rfl, fun h0_ => absurd ((hoff 14 (by kernel_rfl)).symm.trans h0_) (by decide)⟩
            refine steps_cons ?_ ?_
            · rintro b a w' ⟨g48_, v49_, m12_, m14_, ha, Q_HBr, Q_RO36, Q_BL48, Q_RO49, Q_NE36_48, Q_X12_, Q_X14_⟩ hb_ hon hoff
              refine ⟨_, rfl, fun K hK => ?_⟩
              have e36 : a.tmps[36]? = some (v36_) := by rw [ha]; exact putSel_on (e := (0, 36, v36_)) 0 rfl rfl (hon 0 (by kernel_rfl)) rfl
              have e48 : a.tmps[48]? = some (m12_) := by rw [ha]; exact putSel_on (e := (12, 48, m12_)) 12 rfl rfl (hon 12 (by kernel_rfl)) rfl
              rw [Q_X12_ (hon 12 (by kernel_rfl))] at e48
              replace ha := Aside0.mk ha
              have HBr := Aside0.mk Q_HBr
              have RO36 := Aside0.mk (Q_RO36 hb_)
              have BL48 := Aside0.mk (Q_BL48 (hon 12 (by kernel_rfl)))
              have NE36_48 := Aside0.mk (Q_NE36_48 (hon 12 (by kernel_rfl)) hb_)
              refine Kd.R_append_rows_step k44 (w0 := w) w.heap.size (by rfl) (.tmp 36) (.tmp 48) 22 44 _ _ rfl Tryd.underlying22 info44 rfl (by decide) (by decide) v36_ (out) ([⟨x.f0, false, z36, x.f5⟩]) _ _ _ (fun _ => True) (fun _ => False) (by first | (go_simp; done) | (go_simp; rfl)) (by first | (go_simp; done) | (go_simp; rfl)) RO36.out (C_of_block (BL48.out) (Reps.cons (k44_mk _ ⟨x.f0, false, z36, x.f5⟩) rfl (Reps.none _ _)) (by simp)) (fun _ _ h => h) (fun _ h => h.elim) (fun _ _ => trivial) HBr.out (below_size HBr.out) ((by have := HOL.out; simp only [List.length_cons, List.length_nil]; omega)) ?_
              intro va_ w1 hR_ hB_ hg_ hat_
              refine hK.out _ _ ⟨g48_, va_, m12_, m14_, (by rw [ha.out]; exact putSel_upk 13 hb_ rfl rfl rfl), hB_, fun h0_ => absurd ((up_self b 13).symm.trans h0_) (by decide), fun h_ => (hg_.block _ (blk_lt (Q_BL48 h_)) (Q_NE36_48 h_ hb_)).trans (Q_BL48 h_), fun _ => hR_, fun _ h1_ => absurd ((up_self b 13).symm.trans h1_) (by decide), Q_X12_, fun h0_ => absurd ((hoff 14 (by kernel_rfl)).symm.trans h0_) (by decide)⟩
            refine steps_cons ?_ ?_
            · rintro b a w' ⟨g48_, v49_, m12_, m14_, ha, Q_HBr, Q_RO36, Q_BL48, Q_RO49, Q_NE36_48, Q_X12_, Q_X14_⟩ hb_ hon hoff
              refine ⟨_, rfl, fun K hK => ?_⟩
              have e49 : a.tmps[49]? = some (v49_) := by rw [ha]; exact putSel_on (e := (13, 49, v49_)) 13 rfl rfl (hon 13 (by kernel_rfl)) rfl
              replace ha := Aside0.mk ha
              have HBr := Aside0.mk Q_HBr
              have BL48 := Aside0.mk (Q_BL48 (hon 12 (by kernel_rfl)))
              have RO49 := Aside0.mk (Q_RO49 (hon 13 (by kernel_rfl)))
              refine value_ (w1 := w') (v := v49_) ?cA ?cB ?_ ?_
              case cA => rfl
              case cB => rfl
              · go_simp
                (try simp only [i64_w])
                try rfl
              refine hK.out _ _ ⟨g48_, v49_, m12_, (v49_), (by rw [ha.out]; exact putSel_upk 14 hb_ rfl rfl rfl), Q_HBr, fun h0_ => absurd ((hon 13 (by kernel_rfl)).symm.trans h0_) (by decide), Q_BL48, Q_RO49, fun _ h1_ => absurd ((hon 13 (by kernel_rfl)).symm.trans h1_) (by decide), Q_X12_, fun _ => rfl⟩
            exact steps_nil
          rintro b a w' hall ⟨g48_, v49_, m12_, m14_, ha, Q_HBr, Q_RO36, Q_BL48, Q_RO49, Q_NE36_48, Q_X12_, Q_X14_⟩
          clear HBr RO36
          have hb0_ := hall 0 (by kernel_rfl)
          have hb1_ := hall 1 (by kernel_rfl)
          have hb2_ := hall 2 (by kernel_rfl)
          have hb3_ := hall 3 (by kernel_rfl)
          have hb4_ := hall 4 (by kernel_rfl)
          have hb5_ := hall 5 (by kernel_rfl)
          have hb6_ := hall 6 (by kernel_rfl)
          have hb7_ := hall 7 (by kernel_rfl)
          have hb8_ := hall 8 (by kernel_rfl)
          have hb9_ := hall 9 (by kernel_rfl)
          have hb10_ := hall 10 (by kernel_rfl)
          have hb11_ := hall 11 (by kernel_rfl)
          have hb12_ := hall 12 (by kernel_rfl)
          have hb13_ := hall 13 (by kernel_rfl)
          have hb14_ := hall 14 (by kernel_rfl)
          subst ha
          obtain rfl := Q_X12_ hb12_
          obtain rfl := Q_X14_ hb14_
          simp only [putSel, hb0_, hb1_, hb2_, hb3_, hb4_, hb5_, hb6_, hb7_, hb8_, hb9_, hb10_, hb11_, hb12_, hb13_, hb14_, if_true, Act.put, List.setIfInBounds_toArray, List.set_cons_zero, List.set_cons_succ]
          have HBr := Aside0.mk Q_HBr
          clear Q_HBr
          clear Q_RO36
          have BL48 := Aside0.mk (Q_BL48 hb12_)
          clear Q_BL48
          have RO49 := Aside0.mk (Q_RO49 hb13_)
          clear Q_RO49
          clear Q_NE36_48
          clear hall hb0_ hb1_ hb2_ hb3_ hb4_ hb5_ hb6_ hb7_ hb8_ hb9_ hb10_ hb11_ hb12_ hb13_ hb14_
          go_wp2
          go_roundw
          case rel => exact ⟨k + 1, _, rfl, by omega, by go_num, by rw [F2.out]; exact RO49.out, HBr.out⟩
          case measure => simp [intOf]; omega
      · cases t2 : x.f4
        · rw [t1] at r1 f1
          rw [t2] at r7 f1
          have q1 := pw_cell_below HB.out r1
          have F2 : Aside0 (evsM (l.take (k + 1)) = out ++ [⟨x.f0, true, x.f2, z38⟩]) := Aside0.mk (by rw [f1]; simp)
          clear f1
          go_wp2
          clear q1
          obtain ⟨v17_, hv_⟩ : ∃ z, z = v1 := ⟨_, rfl⟩
          rw [← hv_] at HV1 ⊢
          have RO17 := HV1
          have QQ0 := Aside0.mk r0
          have QQ1 := Aside0.mk r1
          have QQ2 := Aside0.mk r2
          have QQ3 := Aside0.mk r3
          have QQ4 := Aside0.mk r4
          have QQ5 := Aside0.mk r5
          have QQ6 := Aside0.mk r6
          have QQ7 := Aside0.mk r7
          have QQ8 := Aside0.mk r8
          have QQ9 := Aside0.mk r9
          clear hv_ HV1 r0 r1 r2 r3 r4 r5 r6 r7 r8 r9
          refine start_ (n := 15) (S := fun w' => True) (ds := []) #[false, false, false, false, false, false, false, false, false, false, false, false, false, false, false] (by kernel_rfl) rfl rfl trivial (fun hHeld => ?_)
          refine with_tabW rev6.tab6 rev6.bits6 (fun HT_ HW_ => ?_)
          have HBr := Aside0.mk (below_drew1 HB.out)
          refine inv_at [0, 1, 2, 3, 4, 5, 6, 7, 8, 9, 10, 11, 12, 13, 14] (fun a0_ b a w' => ∃ (g29_ : Nat) (v30_ : Value) (m12_ : Value) (m14_ : Value), a = putSel a0_ b [(0, 17, v17_), (1, 18, .slice (some ad) l.length c), (2, 19, .int .i64 (k : Int)), (3, 20, .pointer (some (ad.add (k * 10)))), (4, 21, .pointer (some (ad.add (k * 10)))), (5, 22, .int .i64 x.f0), (6, 23, .slice (some ad) l.length c), (7, 24, .int .i64 (k : Int)), (8, 25, .pointer (some (ad.add (k * 10)))), (9, 26, .pointer (some ⟨((ad.add (k * 10))).block, ((ad.add (k * 10))).off + 2, none⟩)), (10, 27, .agg #[.int .i64 x.f2.f0, .int .i64 x.f2.f1, .int .i64 x.f2.f2, .int .i64 x.f2.f3]), (11, 28, .agg #[.int .i64 x.f0, .bool true, .int .i64 x.f2.f0, .int .i64 x.f2.f1, .int .i64 x.f2.f2, .int .i64 x.f2.f3, .int .i64 0, .int .i64 0]), (12, 29, m12_), (13, 30, v30_), (14, 3, m14_)] ∧ (Below w.heap.size w w') ∧ (b 13 = false → Kd.R k44 44 w' w.heap.size (fun _ => True) v17_ (out)) ∧ (b 12 = true → w'.heap[g29_]? = some (.cells #[.int .i64 x.f0, .bool true, .int .i64 x.f2.f0, .int .i64 x.f2.f1, .int .i64 x.f2.f2, .int .i64 x.f2.f3, .int .i64 0, .int .i64 0] 44 (0, 0))) ∧ (b 13 = true → Kd.R k44 44 w' w.heap.size (fun _ => True) v30_ (out ++ [⟨x.f0, true, x.f2, z38⟩])) ∧ (b 12 = true → b 13 = false → some g29_ ≠ v17_.ownBlock) ∧ (b 12 = true → (m12_ : Value) = .slice (some ⟨g29_, 0, none⟩) 1 1) ∧ (b 14 = true → (m14_ : Value) = v30_)) HT_.out HW_.out (by kernel_rfl) (by kernel_rfl) ?_ ?_ ?_
          · exact ⟨0, .bool false, .bool false, .bool false, by simp only [putSel, Bool.false_eq_true, if_false], HBr.out, fun _ => RO17.out, fun h_ => absurd h_ (by decide), fun h_ => absurd h_ (by decide), fun h_ => absurd h_ (by decide), fun h_ => absurd h_ (by decide), fun h_ => absurd h_ (by decide)⟩
          · skip
            clear HBr RO17
            refine steps_cons ?_ ?_
            · rintro b a w' ⟨g29_, v30_, m12_, m14_, ha, Q_HBr, Q_RO17, Q_BL29, Q_RO30, Q_NE17_29, Q_X12_, Q_X14_⟩ hb_ hon hoff
              refine ⟨_, rfl, fun K hK => ?_⟩
              have e3 : a.tmps[3]? = some (v17_) := by rw [ha]; exact (putSel_not (hoff 14 (by kernel_rfl)) rfl).trans rfl
              replace ha := Aside0.mk ha
              have HBr := Aside0.mk Q_HBr
              have RO17 := Aside0.mk (Q_RO17 (hoff 13 (by kernel_rfl)))
              refine value_ (w1 := w') (v := v17_) ?cA ?cB ?_ ?_
              case cA => rfl
              case cB => rfl
              · go_simp
                (try simp only [i64_w])
                try rfl
              refine hK.out _ _ ⟨g29_, v30_, m12_, m14_, (by rw [ha.out]; exact putSel_upk 0 hb_ rfl rfl rfl), Q_HBr, Q_RO17, Q_BL29, fun h0_ => absurd ((hoff 13 (by kernel_rfl)).symm.trans h0_) (by decide), Q_NE17_29, Q_X12_, fun h0_ => absurd ((hoff 14 (by kernel_rfl)).symm.trans h0_) (by decide)⟩
            refine steps_cons ?_ ?_
            · rintro b a w' ⟨g29_, v30_, m12_, m14_, ha, Q_HBr, Q_RO17, Q_BL29, Q_RO30, Q_NE17_29, Q_X12_, Q_X14_⟩ hb_ hon hoff
              refine ⟨_, rfl, fun K hK => ?_⟩
              have e0 : a.tmps[0]? = some (.slice (some ad) l.length c) := by rw [ha]; exact (putSel_off rfl).trans rfl
              replace ha := Aside0.mk ha
              have HBr := Aside0.mk Q_HBr
              have RO17 := Aside0.mk (Q_RO17 (hoff 13 (by kernel_rfl)))
              refine value_ (w1 := w') (v := .slice (some ad) l.length c) ?cA ?cB ?_ ?_
              case cA => rfl
              case cB => rfl
              · go_simp
                (try simp only [i64_w])
                try rfl
              refine hK.out _ _ ⟨g29_, v30_, m12_, m14_, (by rw [ha.out]; exact putSel_upk 1 hb_ rfl rfl rfl), Q_HBr, Q_RO17, fun h0_ => absurd ((hoff 12 (by kernel_rfl)).symm.trans h0_) (by decide), fun h0_ => absurd ((hoff 13 (by kernel_rfl)).symm.trans h0_) (by decide), fun h0_ _ => absurd ((hoff 12 (by kernel_rfl)).symm.trans h0_) (by decide), fun h0_ => absurd ((hoff 12 (by kernel_rfl)).symm.trans h0_) (by decide), fun h0_ => absurd ((hoff 14 (by kernel_rfl)).symm.trans h0_) (by decide)⟩
            refine steps_cons ?_ ?_
            · rintro b a w' ⟨g29_, v30_, m12_, m14_, ha, Q_HBr, Q_RO17, Q_BL29, Q_RO30, Q_NE17_29, Q_X12_, Q_X14_⟩ hb_ hon hoff
              refine ⟨_, rfl, fun K hK => ?_⟩
              have e4 : a.tmps[4]? = some (.int .i64 (k : Int)) := by rw [ha]; exact (putSel_off rfl).trans rfl
              replace ha := Aside0.mk ha
              have HBr := Aside0.mk Q_HBr
              have RO17 := Aside0.mk (Q_RO17 (hoff 13 (by kernel_rfl)))
              refine value_ (w1 := w') (v := .int .i64 (k : Int)) ?cA ?cB ?_ ?_
              case cA => rfl
              case cB => rfl
              · go_simp
                (try simp only [i64_w])
                try rfl
              refine hK.out _ _ ⟨g29_, v30_, m12_, m14_, (by rw [ha.out]; exact putSel_upk 2 hb_ rfl rfl rfl), Q_HBr, Q_RO17, fun h0_ => absurd ((hoff 12 (by kernel_rfl)).symm.trans h0_) (by decide), fun h0_ => absurd ((hoff 13 (by kernel_rfl)).symm.trans h0_) (by decide), fun h0_ _ => absurd ((hoff 12 (by kernel_rfl)).symm.trans h0_) (by decide), fun h0_ => absurd ((hoff 12 (by kernel_rfl)).symm.trans h0_) (by decide), fun h0_ => absurd ((hoff 14 (by kernel_rfl)).symm.trans h0_) (by decide)⟩
            refine steps_cons ?_ ?_
            · rintro b a w' ⟨g29_, v30_, m12_, m14_, ha, Q_HBr, Q_RO17, Q_BL29, Q_RO30, Q_NE17_29, Q_X12_, Q_X14_⟩ hb_ hon hoff
              refine ⟨_, rfl, fun K hK => ?_⟩
              have e18 : a.tmps[18]? = some (.slice (some ad) l.length c) := by rw [ha]; exact putSel_on (e := (1, 18, .slice (some ad) l.length c)) 1 rfl rfl (hon 1 (by kernel_rfl)) rfl
              have e19 : a.tmps[19]? = some (.int .i64 (k : Int)) := by rw [ha]; exact putSel_on (e := (2, 19, .int .i64 (k : Int))) 2 rfl rfl (hon 2 (by kernel_rfl)) rfl
              replace ha := Aside0.mk ha
              have HBr := Aside0.mk Q_HBr
              have RO17 := Aside0.mk (Q_RO17 (hoff 13 (by kernel_rfl)))
              refine value_ (w1 := w') (v := .pointer (some (ad.add (k * 10)))) ?cA ?cB ?_ ?_
              case cA => rfl
              case cB => rfl
              · go_simp
                (try simp only [i64_w])
                try rfl
              refine hK.out _ _ ⟨g29_, v30_, m12_, m14_, (by rw [ha.out]; exact putSel_upk 3 hb_ rfl rfl rfl), Q_HBr, Q_RO17, fun h0_ => absurd ((hoff 12 (by kernel_rfl)).symm.trans h0_) (by decide), fun h0_ => absurd ((hoff 13 (by kernel_rfl)).symm.trans h0_) (by decide), fun h0_ _ => absurd ((hoff 12 (by kernel_rfl)).symm.trans h0_) (by decide), fun h0_ => absurd ((hoff 12 (by kernel_rfl)).symm.trans h0_) (by decide), fun h0_ => absurd ((hoff 14 (by kernel_rfl)).symm.trans h0_) (by decide)⟩
            refine steps_cons ?_ ?_
            · rintro b a w' ⟨g29_, v30_, m12_, m14_, ha, Q_HBr, Q_RO17, Q_BL29, Q_RO30, Q_NE17_29, Q_X12_, Q_X14_⟩ hb_ hon hoff
              refine ⟨_, rfl, fun K hK => ?_⟩
              have e20 : a.tmps[20]? = some (.pointer (some (ad.add (k * 10)))) := by rw [ha]; exact putSel_on (e := (3, 20, .pointer (some (ad.add (k * 10))))) 3 rfl rfl (hon 3 (by kernel_rfl)) rfl
              replace ha := Aside0.mk ha
              have HBr := Aside0.mk Q_HBr
              have RO17 := Aside0.mk (Q_RO17 (hoff 13 (by kernel_rfl)))
              refine value_ (w1 := w') (v := .pointer (some (ad.add (k * 10)))) ?cA ?cB ?_ ?_
              case cA => rfl
              case cB => rfl
              · go_simp
                (try simp only [i64_w])
                try rfl
              refine hK.out _ _ ⟨g29_, v30_, m12_, m14_, (by rw [ha.out]; exact putSel_upk 4 hb_ rfl rfl rfl), Q_HBr, Q_RO17, fun h0_ => absurd ((hoff 12 (by kernel_rfl)).symm.trans h0_) (by decide), fun h0_ => absurd ((hoff 13 (by kernel_rfl)).symm.trans h0_) (by decide), fun h0_ _ => absurd ((hoff 12 (by kernel_rfl)).symm.trans h0_) (by decide), fun h0_ => absurd ((hoff 12 (by kernel_rfl)).symm.trans h0_) (by decide), fun h0_ => absurd ((hoff 14 (by kernel_rfl)).symm.trans h0_) (by decide)⟩
            refine steps_cons ?_ ?_
            · rintro b a w' ⟨g29_, v30_, m12_, m14_, ha, Q_HBr, Q_RO17, Q_BL29, Q_RO30, Q_NE17_29, Q_X12_, Q_X14_⟩ hb_ hon hoff
              refine ⟨_, rfl, fun K hK => ?_⟩
              have e21 : a.tmps[21]? = some (.pointer (some (ad.add (k * 10)))) := by rw [ha]; exact putSel_on (e := (4, 21, .pointer (some (ad.add (k * 10))))) 4 rfl rfl (hon 4 (by kernel_rfl)) rfl
              replace ha := Aside0.mk ha
              have HBr := Aside0.mk Q_HBr
              have RO17 := Aside0.mk (Q_RO17 (hoff 13 (by kernel_rfl)))
              have z0_ := pw_cell_below HBr.out QQ0.out
              refine value_ (w1 := w') (v := .int .i64 x.f0) ?cA ?cB ?_ ?_
              case cA => rfl
              case cB => rfl
              · go_simp
                (try simp only [i64_w])
                try rfl
              refine hK.out _ _ ⟨g29_, v30_, m12_, m14_, (by rw [ha.out]; exact putSel_upk 5 hb_ rfl rfl rfl), Q_HBr, Q_RO17, fun h0_ => absurd ((hoff 12 (by kernel_rfl)).symm.trans h0_) (by decide), fun h0_ => absurd ((hoff 13 (by kernel_rfl)).symm.trans h0_) (by decide), fun h0_ _ => absurd ((hoff 12 (by kernel_rfl)).symm.trans h0_) (by decide), fun h0_ => absurd ((hoff 12 (by kernel_rfl)).symm.trans h0_) (by decide), fun h0_ => absurd ((hoff 14 (by kernel_rfl)).symm.trans h0_) (by decide)⟩
            refine steps_cons ?_ ?_
            · rintro b a w' ⟨g29_, v30_, m12_, m14_, ha, Q_HBr, Q_RO17, Q_BL29, Q_RO30, Q_NE17_29, Q_X12_, Q_X14_⟩ hb_ hon hoff
              refine ⟨_, rfl, fun K hK => ?_⟩
              have e0 : a.tmps[0]? = some (.slice (some ad) l.length c) := by rw [ha]; exact (putSel_off rfl).trans rfl
              replace ha := Aside0.mk ha
              have HBr := Aside0.mk Q_HBr
              have RO17 := Aside0.mk (Q_RO17 (hoff 13 (by kernel_rfl)))
              refine value_ (w1 := w') (v := .slice (some ad) l.length c) ?cA ?cB ?_ ?_
              case cA => rfl
              case cB => rfl
              · go_simp
                (try simp only [i64_w])
                try rfl
              refine hK.out _ _ ⟨g29_, v30_, m12_, m14_, (by rw [ha.out]; exact putSel_upk 6 hb_ rfl rfl rfl), Q_HBr, Q_RO17, fun h0_ => absurd ((hoff 12 (by kernel_rfl)).symm.trans h0_) (by decide), fun h0_ => absurd ((hoff 13 (by kernel_rfl)).symm.trans h0_) (by decide), fun h0_ _ => absurd ((hoff 12 (by kernel_rfl)).symm.trans h0_) (by decide), fun h0_ => absurd ((hoff 12 (by kernel_rfl)).symm.trans h0_) (by decide), fun h0_ => absurd ((hoff 14 (by kernel_rfl)).symm.trans h0_) (by decide)⟩
            refine steps_cons ?_ ?_
            · rintro b a w' ⟨g29_, v30_, m12_, m14_, ha, Q_HBr, Q_RO17, Q_BL29, Q_RO30, Q_NE17_29, Q_X12_, Q_X14_⟩ hb_ hon hoff
              refine ⟨_, rfl, fun K hK => ?_⟩
              have e4 : a.tmps[4]? = some (.int .i64 (k : Int)) := by rw [ha]; exact (putSel_off rfl).trans rfl
              replace ha := Aside0.mk ha
              have HBr := Aside0.mk Q_HBr
              have RO17 := Aside0.mk (Q_RO17 (hoff 13 (by kernel_rfl)))
              refine value_ (w1 := w') (v := .int .i64 (k : Int)) ?cA ?cB ?_ ?_
              case cA => rfl
              case cB => rfl
              · go_simp
                (try simp only [i64_w])
                try rfl
              refine hK.out _ _ ⟨g29_, v30_, m12_, m14_, (by rw [ha.out]; exact putSel_upk 7 hb_ rfl rfl rfl), Q_HBr, Q_RO17, fun h0_ => absurd ((hoff 12 (by kernel_rfl)).symm.trans h0_) (by decide), fun h0_ => absurd ((hoff 13 (by kernel_rfl)).symm.trans h0_) (by decide), fun h0_ _ => absurd ((hoff 12 (by kernel_rfl)).symm.trans h0_) (by decide), fun h0_ => absurd ((hoff 12 (by kernel_rfl)).symm.trans h0_) (by decide), fun h0_ => absurd ((hoff 14 (by kernel_rfl)).symm.trans h0_) (by decide)⟩
            refine steps_cons ?_ ?_
            · rintro b a w' ⟨g29_, v30_, m12_, m14_, ha, Q_HBr, Q_RO17, Q_BL29, Q_RO30, Q_NE17_29, Q_X12_, Q_X14_⟩ hb_ hon hoff
              refine ⟨_, rfl, fun K hK => ?_⟩
              have e23 : a.tmps[23]? = some (.slice (some ad) l.length c) := by rw [ha]; exact putSel_on (e := (6, 23, .slice (some ad) l.length c)) 6 rfl rfl (hon 6 (by kernel_rfl)) rfl
              have e24 : a.tmps[24]? = some (.int .i64 (k : Int)) := by rw [ha]; exact putSel_on (e := (7, 24, .int .i64 (k : Int))) 7 rfl rfl (hon 7 (by kernel_rfl)) rfl
              replace ha := Aside0.mk ha
              have HBr := Aside0.mk Q_HBr
              have RO17 := Aside0.mk (Q_RO17 (hoff 13 (by kernel_rfl)))
              refine value_ (w1 := w') (v := .pointer (some (ad.add (k * 10)))) ?cA ?cB ?_ ?_
              case cA => rfl
              case cB => rfl
              · go_simp
                (try simp only [i64_w])
                try rfl
              refine hK.out _ _ ⟨g29_, v30_, m12_, m14_, (by rw [ha.out]; exact putSel_upk 8 hb_ rfl rfl rfl), Q_HBr, Q_RO17, fun h0_ => absurd ((hoff 12 (by kernel_rfl)).symm.trans h0_) (by decide), fun h0_ => absurd ((hoff 13 (by kernel_rfl)).symm.trans h0_) (by decide), fun h0_ _ => absurd ((hoff 12 (by kernel_rfl)).symm.trans h0_) (by decide), fun h0_ => absurd ((hoff 12 (by kernel_rfl)).symm.trans h0_) (by decide), fun h0_ => absurd ((hoff 14 (by kernel_rfl)).symm.trans h0_) (by decide)⟩
            refine steps_cons ?_ ?_
            · rintro b a w' ⟨g29_, v30_, m12_, m14_, ha, Q_HBr, Q_RO17, Q_BL29, Q_RO30, Q_NE17_29, Q_X12_, Q_X14_⟩ hb_ hon hoff
              refine ⟨_, rfl, fun K hK => ?_⟩
              have e25 : a.tmps[25]? = some (.pointer (some (ad.add (k * 10)))) := by rw [ha]; exact putSel_on (e := (8, 25, .pointer (some (ad.add (k * 10))))) 8 rfl rfl (hon 8 (by kernel_rfl)) rfl
              replace ha := Aside0.mk ha
              have HBr := Aside0.mk Q_HBr
              have RO17 := Aside0.mk (Q_RO17 (hoff 13 (by kernel_rfl)))
              refine value_ (w1 := w') (v := .pointer (some ⟨((ad.add (k * 10))).block, ((ad.add (k * 10))).off + 2, none⟩)) ?cA ?cB ?_ ?_
              case cA => rfl
              case cB => rfl
              · go_simp
                (try simp only [i64_w])
                try rfl
              refine hK.out _ _ ⟨g29_, v30_, m12_, m14_, (by rw [ha.out]; exact putSel_upk 9 hb_ rfl rfl rfl), Q_HBr, Q_RO17, fun h0_ => absurd ((hoff 12 (by kernel_rfl)).symm.trans h0_) (by decide), fun h0_ => absurd ((hoff 13 (by kernel_rfl)).symm.trans h0_) (by decide), fun h0_ _ => absurd ((hoff 12 (by kernel_rfl)).symm.trans h0_) (by decide), fun h0_ => absurd ((hoff 12 (by kernel_rfl)).symm.trans h0_) (by decide), fun h0_ => absurd ((hoff 14 (by kernel_rfl)).symm.trans h0_) (by decide)⟩
            refine steps_cons ?_ ?_
            · rintro b a w' ⟨g29_, v30_, m12_, m14_, ha, Q_HBr, Q_RO17, Q_BL29, Q_RO30, Q_NE17_29, Q_X12_, Q_X14_⟩ hb_ hon hoff
              refine ⟨_, rfl, fun K hK => ?_⟩
              have e26 : a.tmps[26]? = some (.pointer (some ⟨((ad.add (k * 10))).block, ((ad.add (k * 10))).off + 2, none⟩)) := by rw [ha]; exact putSel_on (e := (9, 26, .pointer (some ⟨((ad.add (k * 10))).block, ((ad.add (k * 10))).off + 2, none⟩))) 9 rfl rfl (hon 9 (by kernel_rfl)) rfl
              replace ha := Aside0.mk ha
              have HBr := Aside0.mk Q_HBr
              have RO17 := Aside0.mk (Q_RO17 (hoff 13 (by kernel_rfl)))
              have z0_ := pw_cell_below HBr.out QQ2.out
              have z1_ := pw_cell_below HBr.out QQ3.out
              have z2_ := pw_cell_below HBr.out QQ4.out
              have z3_ := pw_cell_below HBr.out QQ5.out
              refine value_ (w1 := w') (v := .agg #[.int .i64 x.f2.f0, .int .i64 x.f2.f1, .int .i64 x.f2.f2, .int .i64 x.f2.f3]) ?cA ?cB ?_ ?_
              case cA => rfl
              case cB => rfl
              · go_simp
                (try simp only [i64_w])
                try rfl
              refine hK.out _ _ ⟨g29_, v30_, m12_, m14_, (by rw [ha.out]; exact putSel_upk 10 hb_ rfl rfl rfl), Q_HBr, Q_RO17, fun h0_ => absurd ((hoff 12 (by kernel_rfl)).symm.trans h0_) (by decide), fun h0_ => absurd ((hoff 13 (by kernel_rfl)).symm.trans h0_) (by decide), fun h0_ _ => absurd ((hoff 12 (by kernel_rfl)).symm.trans h0_) (by decide), fun h0_ => absurd ((hoff 12 (by kernel_rfl)).symm.trans h0_) (by decide), fun h0_ => absurd ((hoff 14 (by kernel_rfl)).symm.trans h0_) (by decide)⟩
            refine steps_cons ?_ ?_
            · rintro b a w' ⟨g29_, v30_, m12_, m14_, ha, Q_HBr, Q_RO17, Q_BL29, Q_RO30, Q_NE17_29, Q_X12_, Q_X14_⟩ hb_ hon hoff
              refine ⟨_, rfl, fun K hK => ?_⟩
              have e22 : a.tmps[22]? = some (.int .i64 x.f0) := by rw [ha]; exact putSel_on (e := (5, 22, .int .i64 x.f0)) 5 rfl rfl (hon 5 (by kernel_rfl)) rfl
              have e27 : a.tmps[27]? = some (.agg #[.int .i64 x.f2.f0, .int .i64 x.f2.f1, .int .i64 x.f2.f2, .int .i64 x.f2.f3]) := by rw [ha]; exact putSel_on (e := (10, 27, .agg #[.int .i64 x.f2.f0, .int .i64 x.f2.f1, .int .i64 x.f2.f2, .int .i64 x.f2.f3])) 10 rfl rfl (hon 10 (by kernel_rfl)) rfl
              replace ha := Aside0.mk ha
              have HBr := Aside0.mk Q_HBr
              have RO17 := Aside0.mk (Q_RO17 (hoff 13 (by kernel_rfl)))
              refine value_ (w1 := w') (v := .agg #[.int .i64 x.f0, .bool true, .int .i64 x.f2.f0, .int .i64 x.f2.f1, .int .i64 x.f2.f2, .int .i64 x.f2.f3, .int .i64 0, .int .i64 0]) ?cA ?cB ?_ ?_
              case cA => rfl
              case cB => rfl
              · go_simp
                (try simp only [i64_w])
                try rfl
              refine hK.out _ _ ⟨g29_, v30_, m12_, m14_, (by rw [ha.out]; exact putSel_upk 11 hb_ rfl rfl rfl), Q_HBr, Q_RO17, fun h0_ => absurd ((hoff 12 (by kernel_rfl)).symm.trans h0_) (by decide), fun h0_ => absurd ((hoff 13 (by kernel_rfl)).symm.trans h0_) (by decide), fun h0_ _ => absurd ((hoff 12 (by kernel_rfl)).symm.trans h0_) (by decide), fun h0_ => absurd ((hoff 12 (by kernel_rfl)).symm.trans h0_) (by decide), fun h0_ => absurd ((hoff 14 (by kernel_rfl)).symm.trans h0_) (by decide)⟩
            refine steps_cons ?_ ?_
            · rintro b a w' ⟨g29_, v30_, m12_, m14_, ha, Q_HBr, Q_RO17, Q_BL29, Q_RO30, Q_NE17_29, Q_X12_, Q_X14_⟩ hb_ hon hoff
              refine ⟨_, rfl, fun K hK => ?_⟩
              have e28 : a.tmps[28]? = some (.agg #[.int .i64 x.f0, .bool true, .int .i64 x.f2.f0, .int .i64 x.f2.f1, .int .i64 x.f2.f2, .int .i64 x.f2.f3, .int .i64 0, .int .i64 0]) := by rw [ha]; exact putSel_on (e := (11, 28, .agg #[.int .i64 x.f0, .bool true, .int .i64 x.f2.f0, .int .i64 x.f2.f1, .int .i64 x.f2.f2, .int .i64 x.f2.f3, .int .i64 0, .int .i64 0])) 11 rfl rfl (hon 11 (by kernel_rfl)) rfl
              replace ha := Aside0.mk ha
              have HBr := Aside0.mk Q_HBr
              have RO17 := Aside0.mk (Q_RO17 (hoff 13 (by kernel_rfl)))
              refine event_step (w1 := w'.alloc (.cells #[.int .i64 x.f0, .bool true, .int .i64 x.f2.f0, .int .i64 x.f2.f1, .int .i64 x.f2.f2, .int .i64 x.f2.f3, .int .i64 0, .int .i64 0] 44)) (v := .slice (some ⟨w'.heap.size, 0, none⟩) 1 1) (by rfl) ?_ ?_
              · go_simp
                try rfl
              refine hK.out _ _ ⟨w'.heap.size, v30_, (.slice (some ⟨w'.heap.size, 0, none⟩) 1 1), m14_, (by rw [ha.out]; exact putSel_upk 12 hb_ rfl rfl rfl), below_step HBr.out (below_alloc (Below.refl w'.heap.size w') _), fun _ => Kd.R_below RO17.out (below_alloc (Below.refl w'.heap.size w') _), fun _ => blk_new w' _, fun h0_ => absurd ((hoff 13 (by kernel_rfl)).symm.trans h0_) (by decide), fun _ h2_ => Kd.fresh_ok (Q_RO17 h2_) _ (Nat.le_refl _), fun _ => rfl, fun h0_ => absurd ((hoff 14 (by kernel_rfl)).symm.trans h0_) (by decide)⟩
            refine steps_cons ?_ ?_
            · rintro b a w' ⟨g29_, v30_, m12_, m14_, ha, Q_HBr, Q_RO17, Q_BL29, Q_RO30, Q_NE17_29, Q_X12_, Q_X14_⟩ hb_ hon hoff
              refine ⟨_, rfl, fun K hK => ?_⟩
              have e17 : a.tmps[17]? = some (v17_) := by rw [ha]; exact putSel_on (e := (0, 17, v17_)) 0 rfl rfl (hon 0 (by kernel_rfl)) rfl
              have e29 : a.tmps[29]? = some (m12_) := by rw [ha]; exact putSel_on (e := (12, 29, m12_)) 12 rfl rfl (hon 12 (by kernel_rfl)) rfl
              rw [Q_X12_ (hon 12 (by kernel_rfl))] at e29
              replace ha := Aside0.mk ha
              have HBr := Aside0.mk Q_HBr
              have RO17 := Aside0.mk (Q_RO17 hb_)
              have BL29 := Aside0.mk (Q_BL29 (hon 12 (by kernel_rfl)))
              have NE17_29 := Aside0.mk (Q_NE17_29 (hon 12 (by kernel_rfl)) hb_)
              refine Kd.R_append_rows_step k44 (w0 := w) w.heap.size (by rfl) (.tmp 17) (.tmp 29) 22 44 _ _ rfl Tryd.underlying22 info44 rfl (by decide) (by decide) v17_ (out) ([⟨x.f0, true, x.f2, z38⟩]) _ _ _ (fun _ => True) (fun _ => False) (by first | (go_simp; done) | (go_simp; rfl)) (by first | (go_simp; done) | (go_simp; rfl)) RO17.out (C_of_block (BL29.out) (Reps.cons (k44_mk _ ⟨x.f0, true, x.f2, z38⟩) rfl (Reps.none _ _)) (by simp)) (fun _ _ h => h) (fun _ h => h.elim) (fun _ _ => trivial) HBr.out (below_size HBr.out) ((by have := HOL.out; simp only [List.length_cons, List.length_nil]; omega)) ?_
              intro va_ w1 hR_ hB_ hg_ hat_
              refine hK.out _ _ ⟨g29_, va_, m12_, m14_, (by rw [ha.out]; exact putSel_upk 13 hb_ rfl rfl rfl), hB_, fun h0_ => absurd ((up_self b 13).symm.trans h0_) (by decide), fun h_ => (hg_.block _ (blk_lt (Q_BL29 h_)) (Q_NE17_29 h_ hb_)).trans (Q_BL29 h_), fun _ => hR_, fun _ h1_ => absurd ((up_self b 13).symm.trans h1_) (by decide), Q_X12_, fun h0_ => absurd ((hoff 14 (by kernel_rfl)).symm.trans h0_) (by decide)⟩
            refine steps_cons ?_ ?_
            · rintro b a w' ⟨g29_, v30_, m12_, m14_, ha, Q_HBr, Q_RO17, Q_BL29, Q_RO30, Q_NE17_29, Q_X12_, Q_X14_⟩ hb_ hon hoff
              refine ⟨_, rfl, fun K hK => ?_⟩
              have e30 : a.tmps[30]? = some (v30_) := by rw [ha]; exact putSel_on (e := (13, 30, v30_)) 13 rfl rfl (hon 13 (by kernel_rfl)) rfl
              replace ha := Aside0.mk ha
              have HBr := Aside0.mk Q_HBr
              have BL29 := Aside0.mk (Q_BL29 (hon 12 (by kernel_rfl)))
              have RO30 := Aside0.mk (Q_RO30 (hon 13 (by kernel_rfl)))
              refine value_ (w1 := w') (v := v30_) ?cA ?cB ?_ ?_
              case cA => rfl
              case cB => rfl
              · go_simp
                (try simp only [i64_w])
                try rfl
              refine hK.out _ _ ⟨g29_, v30_, m12_, (v30_), (by rw [ha.out]; exact putSel_upk 14 hb_ rfl rfl rfl), Q_HBr, fun h0_ => absurd ((hon 13 (by kernel_rfl)).symm.trans h0_) (by decide), Q_BL29, Q_RO30, fun _ h1_ => absurd ((hon 13 (by kernel_rfl)).symm.trans h1_) (by decide), Q_X12_, fun _ => rfl⟩
            exact steps_nil
          rintro b a w' hall ⟨g29_, v30_, m12_, m14_, ha, Q_HBr, Q_RO17, Q_BL29, Q_RO30, Q_NE17_29, Q_X12_, Q_X14_⟩
          clear HBr RO17
          have hb0_ := hall 0 (by kernel_rfl)
          have hb1_ := hall 1 (by kernel_rfl)
          have hb2_ := hall 2 (by kernel_rfl)
          have hb3_ := hall 3 (by kernel_rfl)
          have hb4_ := hall 4 (by kernel_rfl)
          have hb5_ := hall 5 (by kernel_rfl)
          have hb6_ := hall 6 (by kernel_rfl)
          have hb7_ := hall 7 (by kernel_rfl)
          have hb8_ := hall 8 (by kernel_rfl)
          have hb9_ := hall 9 (by kernel_rfl)
          have hb10_ := hall 10 (by kernel_rfl)
          have hb11_ := hall 11 (by kernel_rfl)
          have hb12_ := hall 12 (by kernel_rfl)
          have hb13_ := hall 13 (by kernel_rfl)
          have hb14_ := hall 14 (by kernel_rfl)
          subst ha
          obtain rfl := Q_X12_ hb12_
          obtain rfl := Q_X14_ hb14_
          simp only [putSel, hb0_, hb1_, hb2_, hb3_, hb4_, hb5_, hb6_, hb7_, hb8_, hb9_, hb10_, hb11_, hb12_, hb13_, hb14_, if_true, Act.put, List.setIfInBounds_toArray, List.set_cons_zero, List.set_cons_succ]
          have HBr := Aside0.mk Q_HBr
          clear Q_HBr
          clear Q_RO17
          have BL29 := Aside0.mk (Q_BL29 hb12_)
          clear Q_BL29
          have RO30 := Aside0.mk (Q_RO30 hb13_)
          clear Q_RO30
          clear Q_NE17_29
          clear hall hb0_ hb1_ hb2_ hb3_ hb4_ hb5_ hb6_ hb7_ hb8_ hb9_ hb10_ hb11_ hb12_ hb13_ hb14_
          have q7 := pw_cell_below HBr.out QQ7.out
          go_wp2
          go_roundw
          case rel => exact ⟨k + 1, _, rfl, by omega, by go_num, by rw [F2.out]; exact RO30.out, HBr.out⟩
          case measure => simp [intOf]; omega
        · rw [t1] at r1 f1
          rw [t2] at r7 f1
          have q1 := pw_cell_below HB.out r1
          have F2 : Aside0 (evsM (l.take (k + 1)) = (out ++ [⟨x.f0, true, x.f2, z38⟩]) ++ [⟨x.f0, false, z36, x.f5⟩]) := Aside0.mk (by rw [f1]; simp)
          clear f1
          go_wp2
          clear q1
          obtain ⟨v17_, hv_⟩ : ∃ z, z = v1 := ⟨_, rfl⟩
          rw [← hv_] at HV1 ⊢
          have RO17 := HV1
          have QQ0 := Aside0.mk r0
          have QQ1 := Aside0.mk r1
          have QQ2 := Aside0.mk r2
          have QQ3 := Aside0.mk r3
          have QQ4 := Aside0.mk r4
          have QQ5 := Aside0.mk r5
          have QQ6 := Aside0.mk r6
          have QQ7 := Aside0.mk r7
          have QQ8 := Aside0.mk r8
          have QQ9 := Aside0.mk r9
          clear hv_ HV1 r0 r1 r2 r3 r4 r5 r6 r7 r8 r9
          refine start_ (n := 15) (S := fun w' => True) (ds := []) #[false, false, false, false, false, false, false, false, false, false, false, false, false, false, false] (by kernel_rfl) rfl rfl trivial (fun hHeld => ?_)
          refine with_tabW rev6.tab6 rev6.bits6 (fun HT_ HW_ => ?_)
          have HBr := Aside0.mk (below_drew1 HB.out)
          refine inv_at [0, 1, 2, 3, 4, 5, 6, 7, 8, 9, 10, 11, 12, 13, 14] (fun a0_ b a w' => ∃ (g29_ : Nat) (v30_ : Value) (m12_ : Value) (m14_ : Value), a = putSel a0_ b [(0, 17, v17_), (1, 18, .slice (some ad) l.length c), (2, 19, .int .i64 (k : Int)), (3, 20, .pointer (some (ad.add (k * 10)))), (4, 21, .pointer (some (ad.add (k * 10)))), (5, 22, .int .i64 x.f0), (6, 23, .slice (some ad) l.length c), (7, 24, .int .i64 (k : Int)), (8, 25, .pointer (some (ad.add (k * 10)))), (9, 26, .pointer (some ⟨((ad.add (k * 10))).block, ((ad.add (k * 10))).off + 2, none⟩)), (10, 27, .agg #[.int .i64 x.f2.f0, .int .i64 x.f2.f1, .int .i64 x.f2.f2, .int .i64 x.f2.f3]), (11, 28, .agg #[.int .i64 x.f0, .bool true, .int .i64 x.f2.f0, .int .i64 x.f2.f1, .int .i64 x.f2.f2, .int .i64 x.f2.f3, .int .i64 0, .int .i64 0]), (12, 29, m12_), (13, 30, v30_), (14, 3, m14_)] ∧ (Below w.heap.size w w') ∧ (b 13 = false → Kd.R k44 44 w' w.heap.size (fun _ => True) v17_ (out)) ∧ (b 12 = true → w'.heap[g29_]? = some (.cells #[.int .i64 x.f0, .bool true, .int .i64 x.f2.f0, .int .i64 x.f2.f1, .int .i64 x.f2.f2, .int .i64 x.f2.f3, .int .i64 0, .int .i64 0] 44 (0, 0))) ∧ (b 13 = true → Kd.R k44 44 w' w.heap.size (fun _ => True) v30_ (out ++ [⟨x.f0, true, x.f2, z38⟩])) ∧ (b 12 = true → b 13 = false → some g29_ ≠ v17_.ownBlock) ∧ (b 12 = true → (m12_ : Value) = .slice (some ⟨g29_, 0, none⟩) 1 1) ∧ (b 14 = true → (m14_ : Value) = v30_)) HT_.out HW_.out (by kernel_rfl) (by kernel_rfl) ?_ ?_ ?_
          · exact ⟨0, .bool false, .bool false, .bool false, by simp only [putSel, Bool.false_eq_true, if_false], HBr.out, fun _ => RO17.out, fun h_ => absurd h_ (by decide), fun h_ => absurd h_ (by decide), fun h_ => absurd h_ (by decide), fun h_ => absurd h_ (by decide), fun h_ => absurd h_ (by decide)⟩
          · skip
            clear HBr RO17
            refine steps_cons ?_ ?_
            · rintro b a w' ⟨g29_, v30_, m12_, m14_, ha, Q_HBr, Q_RO17, Q_BL29, Q_RO30, Q_NE17_29, Q_X12_, Q_X14_⟩ hb_ hon hoff
              refine ⟨_, rfl, fun K hK => ?_⟩
              have e3 : a.tmps[3]? = some (v17_) := by rw [ha]; exact (putSel_not (hoff 14 (by kernel_rfl)) rfl).trans rfl
              replace ha := Aside0.mk ha
              have HBr := Aside0.mk Q_HBr
              have RO17 := Aside0.mk (Q_RO17 (hoff 13 (by kernel_rfl)))
              refine value_ (w1 := w') (v := v17_) ?cA ?cB ?_ ?_
              case cA => rfl
              case cB => rfl
              · go_simp
                (try simp only [i64_w])
                try rfl
              refine hK.out _ _ ⟨g29_, v30_, m12_, m14_, (by rw [ha.out]; exact putSel_upk 0 hb_ rfl rfl rfl), Q_HBr, Q_RO17, Q_BL29, fun h0_ => absurd ((hoff 13 (by kernel_rfl)).symm.trans h0_) (by decide), Q_NE17_29, Q_X12_, fun h0_ => absurd ((hoff 14 (by kernel_rfl)).symm.trans h0_) (by decide)⟩
            refine steps_cons ?_ ?_
            · rintro b a w' ⟨g29_, v30_, m12_, m14_, ha, Q_HBr, Q_RO17, Q_BL29, Q_RO30, Q_NE17_29, Q_X12_, Q_X14_⟩ hb_ hon hoff
              refine ⟨_, rfl, fun K hK => ?_⟩
              have e0 : a.tmps[0]? = some (.slice (some ad) l.length c) := by rw [ha]; exact (putSel_off rfl).trans rfl
              replace ha := Aside0.mk ha
              have HBr := Aside0.mk Q_HBr
              have RO17 := Aside0.mk (Q_RO17 (hoff 13 (by kernel_rfl)))
              refine value_ (w1 := w') (v := .slice (some ad) l.length c) ?cA ?cB ?_ ?_
              case cA => rfl
              case cB => rfl
              · go_simp
                (try simp only [i64_w])
                try rfl
              refine hK.out _ _ ⟨g29_, v30_, m12_, m14_, (by rw [ha.out]; exact putSel_upk 1 hb_ rfl rfl rfl), Q_HBr, Q_RO17, fun h0_ => absurd ((hoff 12 (by kernel_rfl)).symm.trans h0_) (by decide), fun h0_ => absurd ((hoff 13 (by kernel_rfl)).symm.trans h0_) (by decide), fun h0_ _ => absurd ((hoff 12 (by kernel_rfl)).symm.trans h0_) (by decide), fun h0_ => absurd ((hoff 12 (by kernel_rfl)).symm.trans h0_) (by decide), fun h0_ => absurd ((hoff 14 (by kernel_rfl)).symm.trans h0_) (by decide)⟩
            refine steps_cons ?_ ?_
            · rintro b a w' ⟨g29_, v30_, m12_, m14_, ha, Q_HBr, Q_RO17, Q_BL29, Q_RO30, Q_NE17_29, Q_X12_, Q_X14_⟩ hb_ hon hoff
              refine ⟨_, rfl, fun K hK => ?_⟩
              have e4 : a.tmps[4]? = some (.int .i64 (k : Int)) := by rw [ha]; exact (putSel_off rfl).trans rfl
              replace ha := Aside0.mk ha
              have HBr := Aside0.mk Q_HBr
              have RO17 := Aside0.mk (Q_RO17 (hoff 13 (by kernel_rfl)))
              refine value_ (w1 := w') (v := .int .i64 (k : Int)) ?cA ?cB ?_ ?_
              case cA => rfl
              case cB => rfl
              · go_simp
                (try simp only [i64_w])
                try rfl
              refine hK.out _ _ ⟨g29_, v30_, m12_, m14_, (by rw [ha.out]; exact putSel_upk 2 hb_ rfl rfl rfl), Q_HBr, Q_RO17, fun h0_ => absurd ((hoff 12 (by kernel_rfl)).symm.trans h0_) (by decide), fun h0_ => absurd ((hoff 13 (by kernel_rfl)).symm.trans h0_) (by decide), fun h0_ _ => absurd ((hoff 12 (by kernel_rfl)).symm.trans h0_) (by decide), fun h0_ => absurd ((hoff 12 (by kernel_rfl)).symm.trans h0_) (by decide), fun h0_ => absurd ((hoff 14 (by kernel_rfl)).symm.trans h0_) (by decide)⟩
            refine steps_cons ?_ ?_
            · rintro b a w' ⟨g29_, v30_, m12_, m14_, ha, Q_HBr, Q_RO17, Q_BL29, Q_RO30, Q_NE17_29, Q_X12_, Q_X14_⟩ hb_ hon hoff
              refine ⟨_, rfl, fun K hK => ?_⟩
              have e18 : a.tmps[18]? = some (.slice (some ad) l.length c) := by rw [ha]; exact putSel_on (e := (1, 18, .slice (some ad) l.length c)) 1 rfl rfl (hon 1 (by kernel_rfl)) rfl
              have e19 : a.tmps[19]? = some (.int .i64 (k : Int)) := by rw [ha]; exact putSel_on (e := (2, 19, .int .i64 (k : Int))) 2 rfl rfl (hon 2 (by kernel_rfl)) rfl
              replace ha := Aside0.mk ha
              have HBr := Aside0.mk Q_HBr
              have RO17 := Aside0.mk (Q_RO17 (hoff 13 (by kernel_rfl)))
              refine value_ (w1 := w') (v := .pointer (some (ad.add (k * 10)))) ?cA ?cB ?_ ?_
              case cA => rfl
              case cB => rfl
              · go_simp
                (try simp only [i64_w])
                try rfl
              refine hK.out _ _ ⟨g29_, v30_, m12_, m14_, (by rw [ha.out]; exact putSel_upk 3 hb_ rfl rfl rfl), Q_HBr, Q_RO17, fun h0_ => absurd ((hoff 12 (by kernel_rfl)).symm.trans h0_) (by decide), fun h0_ => absurd ((hoff 13 (by kernel_rfl)).symm.trans h0_) (by decide), fun h0_ _ => absurd ((hoff 12 (by kernel_rfl)).symm.trans h0_) (by decide), fun h0_ => absurd ((hoff 12 (by kernel_rfl)).symm.trans h0_) (by decide), fun h0_ => absurd ((hoff 14 (by kernel_rfl)).symm.trans h0_) (by decide)⟩
            refine steps_cons ?_ ?_
            · rintro b a w' ⟨g29_, v30_, m12_, m14_, ha, Q_HBr, Q_RO17, Q_BL29, Q_RO30, Q_NE17_29, Q_X12_, Q_X14_⟩ hb_ hon hoff
              refine ⟨_, rfl, fun K hK => ?_⟩
              have e20 : a.tmps[20]? = some (.pointer (some (ad.add (k * 10)))) := by rw [ha]; exact putSel_on (e := (3, 20, .pointer (some (ad.add (k * 10))))) 3 rfl rfl (hon 3 (by kernel_rfl)) rfl
              replace ha := Aside0.mk ha
              have HBr := Aside0.mk Q_HBr
              have RO17 := Aside0.mk (Q_RO17 (hoff 13 (by kernel_rfl)))
              refine value_ (w1 := w') (v := .pointer (some (ad.add (k * 10)))) ?cA ?cB ?_ ?_
              case cA => rfl
              case cB => rfl
              · go_simp
                (try simp only [i64_w])
                try rfl
              refine hK.out _ _ ⟨g29_, v30_, m12_, m14_, (by rw [ha.out]; exact putSel_upk 4 hb_ rfl rfl rfl), Q_HBr, Q_RO17, fun h0_ => absurd ((hoff 12 (by kernel_rfl)).symm.trans h0_) (by decide), fun h0_ => absurd ((hoff 13 (by kernel_rfl)).symm.trans h0_) (by decide), fun h0_ _ => absurd ((hoff 12 (by kernel_rfl)).symm.trans h0_) (by decide), fun h0_ => absurd ((hoff 12 (by kernel_rfl)).symm.trans h0_) (by decide), fun h0_ => absurd ((hoff 14 (by kernel_rfl)).symm.trans h0_) (by decide)⟩
            refine steps_cons ?_ ?_
            · rintro b a w' ⟨g29_, v30_, m12_, m14_, ha, Q_HBr, Q_RO17, Q_BL29, Q_RO30, Q_NE17_29, Q_X12_, Q_X14_⟩ hb_ hon hoff
              refine ⟨_, rfl, fun K hK => ?_⟩
              have e21 : a.tmps[21]? = some (.pointer (some (ad.add (k * 10)))) := by rw [ha]; exact putSel_on (e := (4, 21, .pointer (some (ad.add (k * 10))))) 4 rfl rfl (hon 4 (by kernel_rfl)) rfl
              replace ha := Aside0.mk ha
              have HBr := Aside0.mk Q_HBr
              have RO17 := Aside0.mk (Q_RO17 (hoff 13 (by kernel_rfl)))
              have z0_ := pw_cell_below HBr.out QQ0.out
              refine value_ (w1 := w') (v := .int .i64 x.f0) ?cA ?cB ?_ ?_
              case cA => rfl
              case cB => rfl
              · go_simp
                (try simp only [i64_w])
                try rfl
              refine hK.out _ _ ⟨g29_, v30_, m12_, m14_, (by rw [ha.out]; exact putSel_upk 5 hb_ rfl rfl rfl), Q_HBr, Q_RO17, fun h0_ => absurd ((hoff 12 (by kernel_rfl)).symm.trans h0_) (by decide), fun h0_ => absurd ((hoff 13 (by kernel_rfl)).symm.trans h0_) (by decide), fun h0_ _ => absurd ((hoff 12 (by kernel_rfl)).symm.trans h0_) (by decide), fun h0_ => absurd ((hoff 12 (by kernel_rfl)).symm.trans h0_) (by decide), fun h0_ => absurd ((hoff 14 (by kernel_rfl)).symm.trans h0_) (by decide)⟩
            refine steps_cons ?_ ?_
            · rintro b a w' ⟨g29_, v30_, m12_, m14_, ha, Q_HBr, Q_RO17, Q_BL29, Q_RO30, Q_NE17_29, Q_X12_, Q_X14_⟩ hb_ hon hoff
              refine ⟨_, rfl, fun K hK => ?_⟩
              have e0 : a.tmps[0]? = some (.slice (some ad) l.length c) := by rw [ha]; exact (putSel_off rfl).trans rfl
              replace ha := Aside0.mk ha
              have HBr := Aside0.mk Q_HBr
              have RO17 := Aside0.mk (Q_RO17 (hoff 13 (by kernel_rfl)))
              refine value_ (w1 := w') (v := .slice (some ad) l.length c) ?cA ?cB ?_ ?_
              case cA => rfl
              case cB => rfl
              · go_simp
                (try simp only [i64_w])
                try rfl
              refine hK.out _ _ ⟨g29_, v30_, m12_, m14_, (by rw [ha.out]; exact putSel_upk 6 hb_ rfl rfl rfl), Q_HBr, Q_RO17, fun h0_ => absurd ((hoff 12 (by kernel_rfl)).symm.trans h0_) (by decide), fun h0_ => absurd ((hoff 13 (by kernel_rfl)).symm.trans h0_) (by decide), fun h0_ _ => absurd ((hoff 12 (by kernel_rfl)).symm.trans h0_) (by decide), fun h0_ => absurd ((hoff 12 (by kernel_rfl)).symm.trans h0_) (by decide), fun h0_ => absurd ((hoff 14 (by kernel_rfl)).symm.trans h0_) (by decide)⟩
            refine steps_cons ?_ ?_
            · rintro b a w' ⟨g29_, v30_, m12_, m14_, ha, Q_HBr, Q_RO17, Q_BL29, Q_RO30, Q_NE17_29, Q_X12_, Q_X14_⟩ hb_ hon hoff
              refine ⟨_, rfl, fun K hK => ?_⟩
              have e4 : a.tmps[4]? = some (.int .i64 (k : Int)) := by rw [ha]; exact (putSel_off rfl).trans rfl
              replace ha := Aside0.mk ha
              have HBr := Aside0.mk Q_HBr
              have RO17 := Aside0.mk (Q_RO17 (hoff 13 (by kernel_rfl)))
              refine value_ (w1 := w') (v := .int .i64 (k : Int)) ?cA ?cB ?_ ?_
              case cA => rfl
              case cB => rfl
              · go_simp
                (try simp only [i64_w])
                try rfl
              refine hK.out _ _ ⟨g29_, v30_, m12_, m14_, (by rw [ha.out]; exact putSel_upk 7 hb_ rfl rfl rfl), Q_HBr, Q_RO17, fun h0_ => absurd ((hoff 12 (by kernel_rfl)).symm.trans h0_) (by decide), fun h0_ => absurd ((hoff 13 (by kernel_rfl)).symm.trans h0_) (by decide), fun h0_ _ => absurd ((hoff 12 (by kernel_rfl)).symm.trans h0_) (by decide), fun h0_ => absurd ((hoff 12 (by kernel_rfl)).symm.trans h0_) (by decide), fun h0_ => absurd ((hoff 14 (by kernel_rfl)).symm.trans h0_) (by decide)⟩
            refine steps_cons ?_ ?_
            · rintro b a w' ⟨g29_, v30_, m12_, m14_, ha, Q_HBr, Q_RO17, Q_BL29, Q_RO30, Q_NE17_29, Q_X12_, Q_X14_⟩ hb_ hon hoff
              refine ⟨_, rfl, fun K hK => ?_⟩
              have e23 : a.tmps[23]? = some (.slice (some ad) l.length c) := by rw [ha]; exact putSel_on (e := (6, 23, .slice (some ad) l.length c)) 6 rfl rfl (hon 6 (by kernel_rfl)) rfl
              have e24 : a.tmps[24]? = some (.int .i64 (k : Int)) := by rw [ha]; exact putSel_on (e := (7, 24, .int .i64 (k : Int))) 7 rfl rfl (hon 7 (by kernel_rfl)) rfl
              replace ha := Aside0.mk ha
              have HBr := Aside0.mk Q_HBr
              have RO17 := Aside0.mk (Q_RO17 (hoff 13 (by kernel_rfl)))
              refine value_ (w1 := w') (v := .pointer (some (ad.add (k * 10)))) ?cA ?cB ?_ ?_
              case cA => rfl
              case cB => rfl
              · go_simp
                (try simp only [i64_w])
                try rfl
              refine hK.out _ _ ⟨g29_, v30_, m12_, m14_, (by rw [ha.out]; exact putSel_upk 8 hb_ rfl rfl rfl), Q_HBr, Q_RO17, fun h0_ => absurd ((hoff 12 (by kernel_rfl)).symm.trans h0_) (by decide), fun h0_ => absurd ((hoff 13 (by kernel_rfl)).symm.trans h0_) (by decide), fun h0_ _ => absurd ((hoff 12 (by kernel_rfl)).symm.trans h0_) (by decide), fun h0_ => absurd ((hoff 12 (by kernel_rfl)).symm.trans h0_) (by decide), fun h0_ => absurd ((hoff 14 (by kernel_rfl)).symm.trans h0_) (by decide)⟩
            refine steps_cons ?_ ?_
            · rintro b a w' ⟨g29_, v30_, m12_, m14_, ha, Q_HBr, Q_RO17, Q_BL29, Q_RO30, Q_NE17_29, Q_X12_, Q_X14_⟩ hb_ hon hoff
              refine ⟨_, rfl, fun K hK => ?_⟩
              have e25 : a.tmps[25]? = some (.pointer (some (ad.add (k * 10)))) := by rw [ha]; exact putSel_on (e := (8, 25, .pointer (some (ad.add (k * 10))))) 8 rfl rfl (hon 8 (by kernel_rfl)) rfl
              replace ha := Aside0.mk ha
              have HBr := Aside0.mk Q_HBr
              have RO17 := Aside0.mk (Q_RO17 (hoff 13 (by kernel_rfl)))
              refine value_ (w1 := w') (v := .pointer (some ⟨((ad.add (k * 10))).block, ((ad.add (k * 10))).off + 2, none⟩)) ?cA ?cB ?_ ?_
              case cA => rfl
              case cB => rfl
              · go_simp
                (try simp only [i64_w])
                try rfl
              refine hK.out _ _ ⟨g29_, v30_, m12_, m14_, (by rw [ha.out]; exact putSel_upk 9 hb_ rfl rfl rfl), Q_HBr, Q_RO17, fun h0_ => absurd ((hoff 12 (by kernel_rfl)).symm.trans h0_) (by decide), fun h0_ => absurd ((hoff 13 (by kernel_rfl)).symm.trans h0_) (by decide), fun h0_ _ => absurd ((hoff 12 (by kernel_rfl)).symm.trans h0_) (by decide), fun h0_ => absurd ((hoff 12 (by kernel_rfl)).symm.trans h0_) (by decide), fun h0_ => absurd ((hoff 14 (by kernel_rfl)).symm.trans h0_) (by decide)⟩
            refine steps_cons ?_ ?_
            · rintro b a w' ⟨g29_, v30_, m12_, m14_, ha, Q_HBr, Q_RO17, Q_BL29, Q_RO30, Q_NE17_29, Q_X12_, Q_X14_⟩ hb_ hon hoff
              refine ⟨_, rfl, fun K hK => ?_⟩
              have e26 : a.tmps[26]? = some (.pointer (some ⟨((ad.add (k * 10))).block, ((ad.add (k * 10))).off + 2, none⟩)) := by rw [ha]; exact putSel_on (e := (9, 26, .pointer (some ⟨((ad.add (k * 10))).block, ((ad.add (k * 10))).off + 2, none⟩))) 9 rfl rfl (hon 9 (by kernel_rfl)) rfl
              replace ha := Aside0.mk ha
              have HBr := Aside0.mk Q_HBr
              have RO17 := Aside0.mk (Q_RO17 (hoff 13 (by kernel_rfl)))
              have z0_ := pw_cell_below HBr.out QQ2.out
              have z1_ := pw_cell_below HBr.out QQ3.out
              have z2_ := pw_cell_below HBr.out QQ4.out
              have z3_ := pw_cell_below HBr.out QQ5.out
              refine value_ (w1 := w') (v := .agg #[.int .i64 x.f2.f0, .int .i64 x.f2.f1, .int .i64 x.f2.f2, .int .i64 x.f2.f3]) ?cA ?cB ?_ ?_
              case cA => rfl
              case cB => rfl
              · go_simp
                (try simp only [i64_w])
                try rfl
              refine hK.out _ _ ⟨g29_, v30_, m12_, m14_, (by rw [ha.out]; exact putSel_upk 10 hb_ rfl rfl rfl), Q_HBr, Q_RO17, fun h0_ => absurd ((hoff 12 (by kernel_rfl)).symm.trans h0_) (by decide), fun h0_ => absurd ((hoff 13 (by kernel_rfl)).symm.trans h0_) (by decide), fun h0_ _ => absurd ((hoff 12 (by kernel_rfl)).symm.trans h0_) (by decide), fun h0_ => absurd ((hoff 12 (by kernel_rfl)).symm.trans h0_) (by decide), fun h0_ => absurd ((hoff 14 (by kernel_rfl)).symm.trans h0_) (by decide)⟩
            refine steps_cons ?_ ?_
            · rintro b a w' ⟨g29_, v30_, m12_, m14_, ha, Q_HBr, Q_RO17, Q_BL29, Q_RO30, Q_NE17_29, Q_X12_, Q_X14_⟩ hb_ hon hoff
              refine ⟨_, rfl, fun K hK => ?_⟩
              have e22 : a.tmps[22]? = some (.int .i64 x.f0) := by rw [ha]; exact putSel_on (e := (5, 22, .int .i64 x.f0)) 5 rfl rfl (hon 5 (by kernel_rfl)) rfl
              have e27 : a.tmps[27]? = some (.agg #[.int .i64 x.f2.f0, .int .i64 x.f2.f1, .int .i64 x.f2.f2, .int .i64 x.f2.f3]) := by rw [ha]; exact putSel_on (e := (10, 27, .agg #[.int .i64 x.f2.f0, .int .i64 x.f2.f1, .int .i64 x.f2.f2, .int .i64 x.f2.f3])) 10 rfl rfl (hon 10 (by kernel_rfl)) rfl
              replace ha := Aside0.mk ha
              have HBr := Aside0.mk Q_HBr
              have RO17 := Aside0.mk (Q_RO17 (hoff 13 (by kernel_rfl)))
              refine value_ (w1 := w') (v := .agg #[.int .i64 x.f0, .bool true, .int .i64 x.f2.f0, .int .i64 x.f2.f1, .int .i64 x.f2.f2, .int .i64 x.f2.f3, .int .i64 0, .int .i64 0]) ?cA ?cB ?_ ?_
              case cA => rfl
              case cB => rfl
              · go_simp
                (try simp only [i64_w])
                try rfl
              refine hK.out _ _ ⟨g29_, v30_, m12_, m14_, (by rw [ha.out]; exact putSel_upk 11 hb_ rfl rfl rfl), Q_HBr, Q_RO17, fun h0_ => absurd ((hoff 12 (by kernel_rfl)).symm.trans h0_) (by decide), fun h0_ => absurd ((hoff 13 (by kernel_rfl)).symm.trans h0_) (by decide), fun h0_ _ => absurd ((hoff 12 (by kernel_rfl)).symm.trans h0_) (by decide), fun h0_ => absurd ((hoff 12 (by kernel_rfl)).symm.trans h0_) (by decide), fun h0_ => absurd ((hoff 14 (by kernel_rfl)).symm.trans h0_) (by decide)⟩
            refine steps_cons ?_ ?_
            · rintro b a w' ⟨g29_, v30_, m12_, m14_, ha, Q_HBr, Q_RO17, Q_BL29, Q_RO30, Q_NE17_29, Q_X12_, Q_X14_⟩ hb_ hon hoff
              refine ⟨_, rfl, fun K hK => ?_⟩
              have e28 : a.tmps[28]? = some (.agg #[.int .i64 x.f0, .bool true, .int .i64 x.f2.f0, .int .i64 x.f2.f1, .int .i64 x.f2.f2, .int .i64 x.f2.f3, .int .i64 0, .int .i64 0]) := by rw [ha]; exact putSel_on (e := (11, 28, .agg #[.int .i64 x.f0, .bool true, .int .i64 x.f2.f0, .int .i64 x.f2.f1, .int .i64 x.f2.f2, .int .i64 x.f2.f3, .int .i64 0, .int .i64 0])) 11 rfl rfl (hon 11 (by kernel_rfl)) rfl
              replace ha := Aside0.mk ha
              have HBr := Aside0.mk Q_HBr
              have RO17 := Aside0.mk (Q_RO17 (hoff 13 (by kernel_rfl)))
              refine event_step (w1 := w'.alloc (.cells #[.int .i64 x.f0, .bool true, .int .i64 x.f2.f0, .int .i64 x.f2.f1, .int .i64 x.f2.f2, .int .i64 x.f2.f3, .int .i64 0, .int .i64 0] 44)) (v := .slice (some ⟨w'.heap.size, 0, none⟩) 1 1) (by rfl) ?_ ?_
              · go_simp
                try rfl
              refine hK.out _ _ ⟨w'.heap.size, v30_, (.slice (some ⟨w'.heap.size, 0, none⟩) 1 1), m14_, (by rw [ha.out]; exact putSel_upk 12 hb_ rfl rfl rfl), below_step HBr.out (below_alloc (Below.refl w'.heap.size w') _), fun _ => Kd.R_below RO17.out (below_alloc (Below.refl w'.heap.size w') _), fun _ => blk_new w' _, fun h0_ => absurd ((hoff 13 (by kernel_rfl)).symm.trans h0_) (by decide), fun _ h2_ => Kd.fresh_ok (Q_RO17 h2_) _ (Nat.le_refl _), fun _ => rfl, fun h0_ => absurd ((hoff 14 (by kernel_rfl)).symm.trans h0_) (by decide)⟩
            refine steps_cons ?_ ?_
            · rintro b a w' ⟨g29_, v30_, m12_, m14_, ha, Q_HBr, Q_RO17, Q_BL29, Q_RO30, Q_NE17_29, Q_X12_, Q_X14_⟩ hb_ hon hoff
              refine ⟨_, rfl, fun K hK => ?_⟩
              have e17 : a.tmps[17]? = some (v17_) := by rw [ha]; exact putSel_on (e := (0, 17, v17_)) 0 rfl rfl (hon 0 (by kernel_rfl)) rfl
              have e29 : a.tmps[29]? = some (m12_) := by rw [ha]; exact putSel_on (e := (12, 29, m12_)) 12 rfl rfl (hon 12 (by kernel_rfl)) rfl
              rw [Q_X12_ (hon 12 (by kernel_rfl))] at e29
              replace ha := Aside0.mk ha
              have HBr := Aside0.mk Q_HBr
              have RO17 := Aside0.mk (Q_RO17 hb_)
              have BL29 := Aside0.mk (Q_BL29 (hon 12 (by kernel_rfl)))
              have NE17_29 := Aside0.mk (Q_NE17_29 (hon 12 (by kernel_rfl)) hb_)
              refine Kd.R_append_rows_step k44 (w0 := w) w.heap.size (by rfl) (.tmp 17) (.tmp 29) 22 44 _ _ rfl Tryd.underlying22 info44 rfl (by decide) (by decide) v17_ (out) ([⟨x.f0, true, x.f2, z38⟩]) _ _ _ (fun _ => True) (fun _ => False) (by first | (go_simp; done) | (go_simp; rfl)) (by first | (go_simp; done) | (go_simp; rfl)) RO17.out (C_of_block (BL29.out) (Reps.cons (k44_mk _ ⟨x.f0, true, x.f2, z38⟩) rfl (Reps.none _ _)) (by simp)) (fun _ _ h => h) (fun _ h => h.elim) (fun _ _ => trivial) HBr.out (below_size HBr.out) ((by have := HOL.out; simp only [List.length_cons, List.length_nil]; omega)) ?_
              intro va_ w1 hR_ hB_ hg_ hat_
              refine hK.out _ _ ⟨g29_, va_, m12_, m14_, (by rw [ha.out]; exact putSel_upk 13 hb_ rfl rfl rfl), hB_, fun h0_ => absurd ((up_self b 13).symm.trans h0_) (by decide), fun h_ => (hg_.block _ (blk_lt (Q_BL29 h_)) (Q_NE17_29 h_ hb_)).trans (Q_BL29 h_), fun _ => hR_, fun _ h1_ => absurd ((up_self b 13).symm.trans h1_) (by decide), Q_X12_, fun h0_ => absurd ((hoff 14 (by kernel_rfl)).symm.trans h0_) (by decide)⟩
            refine steps_cons ?_ ?_
            · rintro b a w' ⟨g29_, v30_, m12_, m14_, ha, Q_HBr, Q_RO17, Q_BL29, Q_RO30, Q_NE17_29, Q_X12_, Q_X14_⟩ hb_ hon hoff
              refine ⟨_, rfl, fun K hK => ?_⟩
              have e30 : a.tmps[30]? = some (v30_) := by rw [ha]; exact putSel_on (e := (13, 30, v30_)) 13 rfl rfl (hon 13 (by kernel_rfl)) rfl
              replace ha := Aside0.mk ha
              have HBr := Aside0.mk Q_HBr
              have BL29 := Aside0.mk (Q_BL29 (hon 12 (by kernel_rfl)))
              have RO30 := Aside0.mk (Q_RO30 (hon 13 (by kernel_rfl)))
              refine value_ (w1 := w') (v := v30_) ?cA ?cB ?_ ?_
              case cA => rfl
              case cB => rfl
              · go_simp
                (try simp only [i64_w])
                try rfl
              refine hK.out _ _ ⟨g29_, v30_, m12_, (v30_), (by rw [ha.out]; exact putSel_upk 14 hb_ rfl rfl rfl), Q_HBr, fun h0_ => absurd ((hon 13 (by kernel_rfl)).symm.trans h0_) (by decide), Q_BL29, Q_RO30, fun _ h1_ => absurd ((hon 13 (by kernel_rfl)).symm.trans h1_) (by decide), Q_X12_, fun _ => rfl⟩
            exact steps_nil
          rintro b a w' hall ⟨g29_, v30_, m12_, m14_, ha, Q_HBr, Q_RO17, Q_BL29, Q_RO30, Q_NE17_29, Q_X12_, Q_X14_⟩
          clear HBr RO17
          have hb0_ := hall 0 (by kernel_rfl)
          have hb1_ := hall 1 (by kernel_rfl)
          have hb2_ := hall 2 (by kernel_rfl)
          have hb3_ := hall 3 (by kernel_rfl)
          have hb4_ := hall 4 (by kernel_rfl)
          have hb5_ := hall 5 (by kernel_rfl)
          have hb6_ := hall 6 (by kernel_rfl)
          have hb7_ := hall 7 (by kernel_rfl)
          have hb8_ := hall 8 (by kernel_rfl)
          have hb9_ := hall 9 (by kernel_rfl)
          have hb10_ := hall 10 (by kernel_rfl)
          have hb11_ := hall 11 (by kernel_rfl)
          have hb12_ := hall 12 (by kernel_rfl)
          have hb13_ := hall 13 (by kernel_rfl)
          have hb14_ := hall 14 (by kernel_rfl)
          subst ha
          obtain rfl := Q_X12_ hb12_
          obtain rfl := Q_X14_ hb14_
          simp only [putSel, hb0_, hb1_, hb2_, hb3_, hb4_, hb5_, hb6_, hb7_, hb8_, hb9_, hb10_, hb11_, hb12_, hb13_, hb14_, if_true, Act.put, List.setIfInBounds_toArray, List.set_cons_zero, List.set_cons_succ]
          have HBr := Aside0.mk Q_HBr
          clear Q_HBr
          clear Q_RO17
          have BL29 := Aside0.mk (Q_BL29 hb12_)
          clear Q_BL29
          have RO30 := Aside0.mk (Q_RO30 hb13_)
          clear Q_RO30
          clear Q_NE17_29
          clear hall hb0_ hb1_ hb2_ hb3_ hb4_ hb5_ hb6_ hb7_ hb8_ hb9_ hb10_ hb11_ hb12_ hb13_ hb14_
          have q7 := pw_cell_below HBr.out QQ7.out
          go_wp2
          clear q7
          have HB := HBr
          have HOL2 : Aside0 ((out ++ [(⟨x.f0, true, x.f2, z38⟩ : Ev)]).length ≤ 2000001) := Aside0.mk (by have := n1; simp only [List.length_append, List.length_cons, List.length_nil]; omega)
          obtain ⟨out2, hout2⟩ : ∃ z, z = out ++ [(⟨x.f0, true, x.f2, z38⟩ : Ev)] := ⟨_, rfl⟩
          rw [← hout2] at F2 HOL2
          obtain ⟨v36_, hv_, hR_⟩ := R_name RO30.out
          rw [← hout2] at hR_
          rw [← hv_]
          have RO36 := Aside0.mk hR_
          clear RO30 hout2 HBr HOL hv_ hR_
          refine start_ (n := 15) (S := fun w' => True) (ds := []) #[false, false, false, false, false, false, false, false, false, false, false, false, false, false, false] (by kernel_rfl) rfl rfl trivial (fun hHeld => ?_)
          refine with_tabW rev8.tab8 rev8.bits8 (fun HT_ HW_ => ?_)
          have HBr := Aside0.mk (below_drew1 HB.out)
          refine inv_at [0, 1, 2, 3, 4, 5, 6, 7, 8, 9, 10, 11, 12, 13, 14] (fun a0_ b a w' => ∃ (g48_ : Nat) (v49_ : Value) (m12_ : Value) (m14_ : Value), a = putSel a0_ b [(0, 36, v36_), (1, 37, .slice (some ad) l.length c), (2, 38, .int .i64 (k : Int)), (3, 39, .pointer (some (ad.add (k * 10)))), (4, 40, .pointer (some (ad.add (k * 10)))), (5, 41, .int .i64 x.f0), (6, 42, .slice (some ad) l.length c), (7, 43, .int .i64 (k : Int)), (8, 44, .pointer (some (ad.add (k * 10)))), (9, 45, .pointer (some ⟨((ad.add (k * 10))).block, ((ad.add (k * 10))).off + 8, none⟩)), (10, 46, .agg #[.int .i64 x.f5.f0, .int .i64 x.f5.f1]), (11, 47, .agg #[.int .i64 x.f0, .bool false, .int .i64 0, .int .i64 0, .int .i64 0, .int .i64 0, .int .i64 x.f5.f0, .int .i64 x.f5.f1]), (12, 48, m12_), (13, 49, v49_), (14, 3, m14_)] ∧ (Below w.heap.size w w') ∧ (b 13 = false → Kd.R k44 44 w' w.heap.size (fun _ => True) v36_ (out2)) ∧ (b 12 = true → w'.heap[g48_]? = some (.cells #[.int .i64 x.f0, .bool false, .int .i64 0, .int .i64 0, .int .i64 0, .int .i64 0, .int .i64 x.f5.f0, .int .i64 x.f5.f1] 44 (0, 0))) ∧ (b 13 = true → Kd.R k44 44 w' w.heap.size (fun _ => True) v49_ (out2 ++ [⟨x.f0, false, z36, x.f5⟩])) ∧ (b 12 = true → b 13 = false → some g48_ ≠ v36_.ownBlock) ∧ (b 12 = true → (m12_ : Value) = .slice (some ⟨g48_, 0, none⟩) 1 1) ∧ (b 14 = true → (m14_ : Value) = v49_)) HT_.out HW_.out (by kernel_rfl) (by kernel_rfl) ?_ ?_ ?_
          · exact ⟨0, .bool false, .bool false, .bool false, by simp only [putSel, Bool.false_eq_true, if_false], HBr.out, fun _ => RO36.out, fun h_ => absurd h_ (by decide), fun h_ => absurd h_ (by decide), fun h_ => absurd h_ (by decide), fun h_ => absurd h_ (by decide), fun h_ => absurd h_ (by decide)⟩
          · skip
            clear HBr RO36
            refine steps_cons ?_ ?_
            · rintro b a w' ⟨g48_, v49_, m12_, m14_, ha, Q_HBr, Q_RO36, Q_BL48, Q_RO49, Q_NE36_48, Q_X12_, Q_X14_⟩ hb_ hon hoff
              refine ⟨_, rfl, fun K hK => ?_⟩
              have e3 : a.tmps[3]? = some (v36_) := by rw [ha]; exact (putSel_not (hoff 14 (by kernel_rfl)) rfl).trans rfl
              replace ha := Aside0.mk ha
              have HBr := Aside0.mk Q_HBr
              have RO36 := Aside0.mk (Q_RO36 (hoff 13 (by kernel_rfl)))
              refine value_ (w1 := w') (v := v36_) ?cA ?cB ?_ ?_
              case cA => rfl
              case cB => rfl
              · go_simp
                (try simp only [i64_w])
                try rfl
              refine hK.out _ _ ⟨g48_, v49_, m12_, m14_, (by rw [ha.out]; exact putSel_upk 0 hb_ rfl rfl rfl), Q_HBr, Q_RO36, Q_BL48, fun h0_ => absurd ((hoff 13 (by kernel_rfl)).symm.trans h0_) (by decide), Q_NE36_48, Q_X12_, fun h0_ => absurd ((hoff 14 (by kernel_rfl)).symm.trans h0_) (by decide)⟩
            refine steps_cons ?_ ?_
            · rintro b a w' ⟨g48_, v49_, m12_, m14_, ha, Q_HBr, Q_RO36, Q_BL48, Q_RO49, Q_NE36_48, Q_X12_, Q_X14_⟩ hb_ hon hoff
              refine ⟨_, rfl, fun K hK => ?_⟩
              have e0 : a.tmps[0]? = some (.slice (some ad) l.length c) := by rw [ha]; exact (putSel_off rfl).trans rfl
              replace ha := Aside0.mk ha
              have HBr := Aside0.mk Q_HBr
              have RO36 := Aside0.mk (Q_RO36 (hoff 13 (by kernel_rfl)))
              refine value_ (w1 := w') (v := .slice (some ad) l.length c) ?cA ?cB ?_ ?_
              case cA => rfl
              case cB => rfl
              · go_simp
                (try simp only [i64_w])
                try rfl
              refine hK.out _ _ ⟨g48_, v49_, m12_, m14_, (by rw [ha.out]; exact putSel_upk 1 hb_ rfl rfl rfl), Q_HBr, Q_RO36, fun h0_ => absurd ((hoff 12 (by kernel_rfl)).symm.trans h0_) (by decide), fun h0_ => absurd ((hoff 13 (by kernel_rfl)).symm.trans h0_) (by decide), fun h0_ _ => absurd ((hoff 12 (by kernel_rfl)).symm.trans h0_) (by decide), fun h0_ => absurd ((hoff 12 (by kernel_rfl)).symm.trans h0_) (by decide), fun h0_ => absurd ((hoff 14 (by kernel_rfl)).symm.trans h0_) (by decide)⟩
            refine steps_cons ?_ ?_
            · rintro b a w' ⟨g48_, v49_, m12_, m14_, ha, Q_HBr, Q_RO36, Q_BL48, Q_RO49, Q_NE36_48, Q_X12_, Q_X14_⟩ hb_ hon hoff
              refine ⟨_, rfl, fun K hK => ?_⟩
              have e4 : a.tmps[4]? = some (.int .i64 (k : Int)) := by rw [ha]; exact (putSel_off rfl).trans rfl
              replace ha := Aside0.mk ha
              have HBr := Aside0.mk Q_HBr
              have RO36 := Aside0.mk (Q_RO36 (hoff 13 (by kernel_rfl)))
              refine value_ (w1 := w') (v := .int .i64 (k : Int)) ?cA ?cB ?_ ?_
              case cA => rfl
              case cB => rfl
              · go_simp
                (try simp only [i64_w])
                try rfl
              refine hK.out _ _ ⟨g48_, v49_, m12_, m14_, (by rw [ha.out]; exact putSel_upk 2 hb_ rfl rfl rfl), Q_HBr, Q_RO36, fun h0_ => absurd ((hoff 12 (by kernel_rfl)).symm.trans h0_) (by decide), fun h0_ => absurd ((hoff 13 (by kernel_rfl)).symm.trans h0_) (by decide), fun h0_ _ => absurd ((hoff 12 (by kernel_rfl)).symm.trans h0_) (by decide), fun h0_ => absurd ((hoff 12 (by kernel_rfl)).symm.trans h0_) (by decide), fun h0_ => absurd ((hoff 14 (by kernel_rfl)).symm.trans h0_) (by decide)⟩
            refine steps_cons ?_ ?_
            · rintro b a w' ⟨g48_, v49_, m12_, m14_, ha, Q_HBr, Q_RO36, Q_BL48, Q_RO49, Q_NE36_48, Q_X12_, Q_X14_⟩ hb_ hon hoff
              refine ⟨_, rfl, fun K hK => ?_⟩
              have e37 : a.tmps[37]? = some (.slice (some ad) l.length c) := by rw [ha]; exact putSel_on (e := (1, 37, .slice (some ad) l.length c)) 1 rfl rfl (hon 1 (by kernel_rfl)) rfl
              have e38 : a.tmps[38]? = some (.int .i64 (k : Int)) := by rw [ha]; exact putSel_on (e := (2, 38, .int .i64 (k : Int))) 2 rfl rfl (hon 2 (by kernel_rfl)) rfl
              replace ha := Aside0.mk ha
              have HBr := Aside0.mk Q_HBr
              have RO36 := Aside0.mk (Q_RO36 (hoff 13 (by kernel_rfl)))
              refine value_ (w1 := w') (v := .pointer (some (ad.add (k * 10)))) ?cA ?cB ?_ ?_
              case cA => rfl
              case cB => rfl
              · go_simp
                (try simp only [i64_w])
                try rfl
              refine hK.out _ _ ⟨g48_, v49_, m12_, m14_, (by rw [ha.out]; exact putSel_upk 3 hb_ rfl rfl rfl), Q_HBr, Q_RO36, fun h0_ => absurd ((hoff 12 (by kernel_rfl)).symm.trans h0_) (by decide), fun h0_ => absurd ((hoff 13 (by kernel_rfl)).symm.trans h0_) (by decide), fun h0_ _ => absurd ((hoff 12 (by kernel_rfl)).symm.trans h0_) (by decide), fun h0_ => absurd ((hoff 12 (by kernel_rfl)).symm.trans h0_) (by decide), fun h0_ => absurd ((hoff 14 (by kernel_rfl)).symm.trans h0_) (by decide)⟩
            refine steps_cons ?_ ?_
            · rintro b a w' ⟨g48_, v49_, m12_, m14_, ha, Q_HBr, Q_RO36, Q_BL48, Q_RO49, Q_NE36_48, Q_X12_, Q_X14_⟩ hb_ hon hoff
              refine ⟨_, rfl, fun K hK => ?_⟩
              have e39 : a.tmps[39]? = some (.pointer (some (ad.add (k * 10)))) := by rw [ha]; exact putSel_on (e := (3, 39, .pointer (some (ad.add (k * 10))))) 3 rfl rfl (hon 3 (by kernel_rfl)) rfl
              replace ha := Aside0.mk ha
              have HBr := Aside0.mk Q_HBr
              have RO36 := Aside0.mk (Q_RO36 (hoff 13 (by kernel_rfl)))
              refine value_ (w1 := w') (v := .pointer (some (ad.add (k * 10)))) ?cA ?cB ?_ ?_
              case cA => rfl
              case cB => rfl
              · go_simp
                (try simp only [i64_w])
                try rfl
              refine hK.out _ _ ⟨g48_, v49_, m12_, m14_, (by rw [ha.out]; exact putSel_upk 4 hb_ rfl rfl rfl), Q_HBr, Q_RO36, fun h0_ => absurd ((hoff 12 (by kernel_rfl)).symm.trans h0_) (by decide), fun h0_ => absurd ((hoff 13 (by kernel_rfl)).symm.trans h0_) (by decide), fun h0_ _ => absurd ((hoff 12 (by kernel_rfl)).symm.trans h0_) (by decide), fun h0_ => absurd ((hoff 12 (by kernel_rfl)).symm.trans h0_) (by decide), fun h0_ => absurd ((hoff 14 (by kernel_rfl)).symm.trans h0_) (by decide)⟩
            refine steps_cons ?_ ?_
            · rintro b a w' ⟨g48_, v49_, m12_, m14_, ha, Q_HBr, Q_RO36, Q_BL48, Q_RO49, Q_NE36_48, Q_X12_, Q_X14_⟩ hb_ hon hoff
              refine ⟨_, rfl, fun K hK => ?_⟩
              have e40 : a.tmps[40]? = some (.pointer (some (ad.add (k * 10)))) := by rw [ha]; exact putSel_on (e := (4, 40, .pointer (some (ad.add (k * 10))))) 4 rfl rfl (hon 4 (by kernel_rfl)) rfl
              replace ha := Aside0.mk ha
              have HBr := Aside0.mk Q_HBr
              have RO36 := Aside0.mk (Q_RO36 (hoff 13 (by kernel_rfl)))
              have z0_ := pw_cell_below HBr.out QQ0.out
              refine value_ (w1 := w') (v := .int .i64 x.f0) ?cA ?cB ?_ ?_
              case cA => rfl
              case cB => rfl
              · go_simp
                (try simp only [i64_w])
                try rfl
              refine hK.out _ _ ⟨g48_, v49_, m12_, m14_, (by rw [ha.out]; exact putSel_upk 5 hb_ rfl rfl rfl), Q_HBr, Q_RO36, fun h0_ => absurd ((hoff 12 (by kernel_rfl)).symm.trans h0_) (by decide), fun h0_ => absurd ((hoff 13 (by kernel_rfl)).symm.trans h0_) (by decide), fun h0_ _ => absurd ((hoff 12 (by kernel_rfl)).symm.trans h0_) (by decide), fun h0_ => absurd ((hoff 12 (by kernel_rfl)).symm.trans h0_) (by decide), fun h0_ => absurd ((hoff 14 (by kernel_rfl)).symm.trans h0_) (by decide)⟩
            refine steps_cons ?_ ?_
            · rintro b a w' ⟨g48_, v49_, m12_, m14_, ha, Q_HBr, Q_RO36, Q_BL48, Q_RO49, Q_NE36_48, Q_X12_, Q_X14_⟩ hb_ hon hoff
              refine ⟨_, rfl, fun K hK => ?_⟩
              have e0 : a.tmps[0]? = some (.slice (some ad) l.length c) := by rw [ha]; exact (putSel_off rfl).trans rfl
              replace ha := Aside0.mk ha
              have HBr := Aside0.mk Q_HBr
              have RO36 := Aside0.mk (Q_RO36 (hoff 13 (by kernel_rfl)))
              refine value_ (w1 := w') (v := .slice (some ad) l.length c) ?cA ?cB ?_ ?_
              case cA => rfl
              case cB => rfl
              · go_simp
                (try simp only [i64_w])
                try rfl
              refine hK.out _ _ ⟨g48_, v49_, m12_, m14_, (by rw [ha.out]; exact putSel_upk 6 hb_ rfl rfl rfl), Q_HBr, Q_RO36, fun h0_ => absurd ((hoff 12 (by kernel_rfl)).symm.trans h0_) (by decide), fun h0_ => absurd ((hoff 13 (by kernel_rfl)).symm.trans h0_) (by decide), fun h0_ _ => absurd ((hoff 12 (by kernel_rfl)).symm.trans h0_) (by decide), fun h0_ => absurd ((hoff 12 (by kernel_rfl)).symm.trans h0_) (by decide), fun h0_ => absurd ((hoff 14 (by kernel_rfl)).symm.trans h0_) (by decide)⟩
            refine steps_cons ?_ ?_
            · rintro b a w' ⟨g48_, v49_, m12_, m14_, ha, Q_HBr, Q_RO36, Q_BL48, Q_RO49, Q_NE36_48, Q_X12_, Q_X14_⟩ hb_ hon hoff
              refine ⟨_, rfl, fun K hK => ?_⟩
              have e4 : a.tmps[4]? = some (.int .i64 (k : Int)) := by rw [ha]; exact (putSel_off rfl).trans rfl
              replace ha := Aside0.mk ha
              have HBr := Aside0.mk Q_HBr
              have RO36 := Aside0.mk (Q_RO36 (hoff 13 (by kernel_rfl)))
              refine value_ (w1 := w') (v := .int .i64 (k : Int)) ?cA ?cB ?_ ?_
              case cA => rfl
              case cB => rfl
              · go_simp
                (try simp only [i64_w])
                try rfl
              refine hK.out _ _ ⟨g48_, v49_, m12_, m14_, (by rw [ha.out]; exact putSel_upk 7 hb_ rfl rfl rfl), Q_HBr, Q_RO36, fun h0_ => absurd ((hoff 12 (by kernel_rfl)).symm.trans h0_) (by decide), fun h0_ => absurd ((hoff 13 (by kernel_rfl)).symm.trans h0_) (by decide), fun h0_ _ => absurd ((hoff 12 (by kernel_rfl)).symm.trans h0_) (by decide), fun h0_ => absurd ((hoff 12 (by kernel_rfl)).symm.trans h0_) (by decide), fun h0_ => absurd ((hoff 14 (by kernel_rfl)).symm.trans h0_) (by decide)⟩
            refine steps_cons ?_ ?_
            · rintro b a w' ⟨g48_, v49_, m12_, m14_, ha, Q_HBr, Q_RO36, Q_BL48, Q_RO49, Q_NE36_48, Q_X12_, Q_X14_⟩ hb_ hon hoff
              refine ⟨_, rfl, fun K hK => ?_⟩
              have e42 : a.tmps[42]? = some (.slice (some ad) l.length c) := by rw [ha]; exact putSel_on (e := (6, 42, .slice (some ad) l.length c)) 6 rfl rfl (hon 6 (by kernel_rfl)) rfl
              have e43 : a.tmps[43]? = some (.int .i64 (k : Int)) := by rw [ha]; exact putSel_on (e := (7, 43, .int .i64 (k : Int))) 7 rfl rfl (hon 7 (by kernel_rfl)) rfl
              replace ha := Aside0.mk ha
              have HBr := Aside0.mk Q_HBr
              have RO36 := Aside0.mk (Q_RO36 (hoff 13 (by kernel_rfl)))
              refine value_ (w1 := w') (v := .pointer (some (ad.add (k * 10)))) ?cA ?cB ?_ ?_
              case cA => rfl
              case cB => rfl
              · go_simp
                (try simp only [i64_w])
                try rfl
              refine hK.out _ _ ⟨g48_, v49_, m12_, m14_, (by rw [ha.out]; exact putSel_upk 8 hb_ rfl rfl rfl), Q_HBr, Q_RO36, fun h0_ => absurd ((hoff 12 (by kernel_rfl)).symm.trans h0_) (by decide), fun h0_ => absurd ((hoff 13 (by kernel_rfl)).symm.trans h0_) (by decide), fun h0_ _ => absurd ((hoff 12 (by kernel_rfl)).symm.trans h0_) (by decide), fun h0_ => absurd ((hoff 12 (by kernel_rfl)).symm.trans h0_) (by decide), fun h0_ => absurd ((hoff 14 (by kernel_rfl)).symm.trans h0_) (by decide)⟩
            refine steps_cons ?_ ?_
            · rintro b a w' ⟨g48_, v49_, m12_, m14_, ha, Q_HBr, Q_RO36, Q_BL48, Q_RO49, Q_NE36_48, Q_X12_, Q_X14_⟩ hb_ hon hoff
              refine ⟨_, rfl, fun K hK => ?_⟩
              have e44 : a.tmps[44]? = some (.pointer (some (ad.add (k * 10)))) := by rw [ha]; exact putSel_on (e := (8, 44, .pointer (some (ad.add (k * 10))))) 8 rfl rfl (hon 8 (by kernel_rfl)) rfl
              replace ha := Aside0.mk ha
              have HBr := Aside0.mk Q_HBr
              have RO36 := Aside0.mk (Q_RO36 (hoff 13 (by kernel_rfl)))
              refine value_ (w1 := w') (v := .pointer (some ⟨((ad.add (k * 10))).block, ((ad.add (k * 10))).off + 8, none⟩)) ?cA ?cB ?_ ?_
              case cA => rfl
              case cB => rfl
              · go_simp
                (try simp only [i64_w])
                try rfl
              refine hK.out _ _ ⟨g48_, v49_, m12_, m14_, (by rw [ha.out]; exact putSel_upk 9 hb_ rfl rfl rfl), Q_HBr, Q_RO36, fun h0_ => absurd ((hoff 12 (by kernel_rfl)).symm.trans h0_) (by decide), fun h0_ => absurd ((hoff 13 (by kernel_rfl)).symm.trans h0_) (by decide), fun h0_ _ => absurd ((hoff 12 (by kernel_rfl)).symm.trans h0_) (by decide), fun h0_ => absurd ((hoff 12 (by kernel_rfl)).symm.trans h0_) (by decide), fun h0_ => absurd ((hoff 14 (by kernel_rfl)).symm.trans h0_) (by decide)⟩
            refine steps_cons ?_ ?_
            · rintro b a w' ⟨g48_, v49_, m12_, m14_, ha, Q_HBr, Q_RO36, Q_BL48, Q_RO49, Q_NE36_48, Q_X12_, Q_X14_⟩ hb_ hon hoff
              refine ⟨_, rfl, fun K hK => ?_⟩
              have e45 : a.tmps[45]? = some (.pointer (some ⟨((ad.add (k * 10))).block, ((ad.add (k * 10))).off + 8, none⟩)) := by rw [ha]; exact putSel_on (e := (9, 45, .pointer (some ⟨((ad.add (k * 10))).block, ((ad.add (k * 10))).off + 8, none⟩))) 9 rfl rfl (hon 9 (by kernel_rfl)) rfl
              replace ha := Aside0.mk ha
              have HBr := Aside0.mk Q_HBr
              have RO36 := Aside0.mk (Q_RO36 (hoff 13 (by kernel_rfl)))
              have z0_ := pw_cell_below HBr.out QQ8.out
              have z1_ := pw_cell_below HBr.out QQ9.out
              refine value_ (w1 := w') (v := .agg #[.int .i64 x.f5.f0, .int .i64 x.f5.f1]) ?cA ?cB ?_ ?_
              case cA => rfl
              case cB => rfl
              · go_simp
                (try simp only [i64_w])
                try rfl
              refine hK.out _ _ ⟨g48_, v49_, m12_, m14_, (by rw [ha.out]; exact putSel_upk 10 hb_ rfl rfl rfl), Q_HBr, Q_RO36, fun h0_ => absurd ((hoff 12 (by kernel_rfl)).symm.trans h0_) (by decide), fun h0_ => absurd ((hoff 13 (by kernel_rfl)).symm.trans h0_) (by decide), fun h0_ _ => absurd ((hoff 12 (by kernel_rfl)).symm.trans h0_) (by decide), fun h0_ => absurd ((hoff 12 (by kernel_rfl)).symm.trans h0_) (by decide), fun h0_ => absurd ((hoff 14 (by kernel_rfl)).symm.trans h0_) (by decide)⟩
            refine steps_cons ?_ ?_
            · rintro b a w' ⟨g48_, v49_, m12_, m14_, ha, Q_HBr, Q_RO36, Q_BL48, Q_RO49, Q_NE36_48, Q_X12_, Q_X14_⟩ hb_ hon hoff
              refine ⟨_, rfl, fun K hK => ?_⟩
              have e41 : a.tmps[41]? = some (.int .i64 x.f0) := by rw [ha]; exact putSel_on (e := (5, 41, .int .i64 x.f0)) 5 rfl rfl (hon 5 (by kernel_rfl)) rfl
              have e46 : a.tmps[46]? = some (.agg #[.int .i64 x.f5.f0, .int .i64 x.f5.f1]) := by rw [ha]; exact putSel_on (e := (10, 46, .agg #[.int .i64 x.f5.f0, .int .i64 x.f5.f1])) 10 rfl rfl (hon 10 (by kernel_rfl)) rfl
              replace ha := Aside0.mk ha
              have HBr := Aside0.mk Q_HBr
              have RO36 := Aside0.mk (Q_RO36 (hoff 13 (by kernel_rfl)))
              refine value_ (w1 := w') (v := .agg #[.int .i64 x.f0, .bool false, .int .i64 0, .int .i64 0, .int .i64 0, .int .i64 0, .int .i64 x.f5.f0, .int .i64 x.f5.f1]) ?cA ?cB ?_ ?_
              case cA => rfl
              case cB => rfl
              · go_simp
                (try simp only [i64_w])
                try rfl
              refine hK.out _ _ ⟨g48_, v49_, m12_, m14_, (by rw [ha.out]; exact putSel_upk 11 hb_ rfl rfl rfl), Q_HBr, Q_RO36, fun h0_ => absurd ((hoff 12 (by kernel_rfl)).symm.trans h0_) (by decide), fun h0_ => absurd ((hoff 13 (by kernel_rfl)).symm.trans h0_) (by decide), fun h0_ _ => absurd ((hoff 12 (by kernel_rfl)).symm.trans h0_) (by decide), fun h0_ => absurd ((hoff 12 (by kernel_rfl)).symm.trans h0_) (by decide), fun h0_ => absurd ((hoff 14 (by kernel_rfl)).symm.trans h0_) (by decide)⟩
            refine steps_cons ?_ ?_
            · rintro b a w' ⟨g48_, v49_, m12_, m14_, ha, Q_HBr, Q_RO36, Q_BL48, Q_RO49, Q_NE36_48, Q_X12_, Q_X14_⟩ hb_ hon hoff
              refine ⟨_, rfl, fun K hK => ?_⟩
              have e47 : a.tmps[47]? = some (.agg #[.int .i64 x.f0, .bool false, .int .i64 0, .int .i64 0, .int .i64 0, .int .i64 0, .int .i64 x.f5.f0, .int .i64 x.f5.f1]) := by rw [ha]; exact putSel_on (e := (11, 47, .agg #[.int .i64 x.f0, .bool false, .int .i64 0, .int .i64 0, .int .i64 0, .int .i64 0, .int .i64 x.f5.f0, .int .i64 x.f5.f1])) 11 rfl rfl (hon 11 (by kernel_rfl)) rfl
              replace ha := Aside0.mk ha
              have HBr := Aside0.mk Q_HBr
              have RO36 := Aside0.mk (Q_RO36 (hoff 13 (by kernel_rfl)))
              refine event_step (w1 := w'.alloc (.cells #[.int .i64 x.f0, .bool false, .int .i64 0, .int .i64 0, .int .i64 0, .int .i64 0, .int .i64 x.f5.f0, .int .i64 x.f5.f1] 44)) (v := .slice (some ⟨w'.heap.size, 0, none⟩) 1 1) (by rfl) ?_ ?_
              · go_simp
                try rfl
              refine hK.out _ _ ⟨w'.heap.size, v49_, (.slice (some ⟨w'.heap.size, 0, none⟩) 1 1), m14_, (by rw [ha.out]; exact putSel_upk 12 hb_ rfl rfl rfl), below_step HBr.out (below_alloc (Below.refl w'.heap.size w') _), fun _ => Kd.R_below RO36.out (below_alloc (Below.refl w'.heap.size w') _), fun _ => blk_new w' _, fun h0_ => absurd ((hoff 13 (by kernel_rfl)).symm.trans h0_) (by decide), fun _ h2_ => Kd.fresh_ok (Q_RO36 h2_) _ (Nat.le_refl _), fun _ => rfl, fun h0_ => absurd ((hoff 14 (by kernel_rfl)).symm.trans h0_) (by decide)⟩
            refine steps_cons ?_ ?_
            · rintro b a w' ⟨g48_, v49_, m12_, m14_, ha, Q_HBr, Q_RO36, Q_BL48, Q_RO49, Q_NE36_48, Q_X12_, Q_X14_⟩ hb_ hon hoff
              refine ⟨_, rfl, fun K hK => ?_⟩
              have e36 : a.tmps[36]? = some (v36_) := by rw [ha]; exact putSel_on (e := (0, 36, v36_)) 0 rfl rfl (hon 0 (by kernel_rfl)) rfl
              have e48 : a.tmps[48]? = some (m12_) := by rw [ha]; exact putSel_on (e := (12, 48, m12_)) 12 rfl rfl (hon 12 (by kernel_rfl)) rfl
              rw [Q_X12_ (hon 12 (by kernel_rfl))] at e48
              replace ha := Aside0.mk ha
              have HBr := Aside0.mk Q_HBr
              have RO36 := Aside0.mk (Q_RO36 hb_)
              have BL48 := Aside0.mk (Q_BL48 (hon 12 (by kernel_rfl)))
              have NE36_48 := Aside0.mk (Q_NE36_48 (hon 12 (by kernel_rfl)) hb_)
              refine Kd.R_append_rows_step k44 (w0 := w) w.heap.size (by rfl) (.tmp 36) (.tmp 48) 22 44 _ _ rfl Tryd.underlying22 info44 rfl (by decide) (by decide) v36_ (out2) ([⟨x.f0, false, z36, x.f5⟩]) _ _ _ (fun _ => True) (fun _ => False) (by first | (go_simp; done) | (go_simp; rfl)) (by first | (go_simp; done) | (go_simp; rfl)) RO36.out (C_of_block (BL48.out) (Reps.cons (k44_mk _ ⟨x.f0, false, z36, x.f5⟩) rfl (Reps.none _ _)) (by simp)) (fun _ _ h => h) (fun _ h => h.elim) (fun _ _ => trivial) HBr.out (below_size HBr.out) ((by have := HOL2.out; simp only [List.length_cons, List.length_nil]; omega)) ?_
              intro va_ w1 hR_ hB_ hg_ hat_
              refine hK.out _ _ ⟨g48_, va_, m12_, m14_, (by rw [ha.out]; exact putSel_upk 13 hb_ rfl rfl rfl), hB_, fun h0_ => absurd ((up_self b 13).symm.trans h0_) (by decide), fun h_ => (hg_.block _ (blk_lt (Q_BL48 h_)) (Q_NE36_48 h_ hb_)).trans (Q_BL48 h_), fun _ => hR_, fun _ h1_ => absurd ((up_self b 13).symm.trans h1_) (by decide), Q_X12_, fun h0_ => absurd ((hoff 14 (by kernel_rfl)).symm.trans h0_) (by decide)⟩
            refine steps_cons ?_ ?_
            · rintro b a w' ⟨g48_, v49_, m12_, m14_, ha, Q_HBr, Q_RO36, Q_BL48, Q_RO49, Q_NE36_48, Q_X12_, Q_X14_⟩ hb_ hon hoff
              refine ⟨_, rfl, fun K hK => ?_⟩
              have e49 : a.tmps[49]? = some (v49_) := by rw [ha]; exact putSel_on (e := (13, 49, v49_)) 13 rfl rfl (hon 13 (by kernel_rfl)) rfl
              replace ha := Aside0.mk ha
              have HBr := Aside0.mk Q_HBr
              have BL48 := Aside0.mk (Q_BL48 (hon 12 (by kernel_rfl)))
              have RO49 := Aside0.mk (Q_RO49 (hon 13 (by kernel_rfl)))
              refine value_ (w1 := w') (v := v49_) ?cA ?cB ?_ ?_
              case cA => rfl
              case cB => rfl
              · go_simp
                (try simp only [i64_w])
                try rfl
              refine hK.out _ _ ⟨g48_, v49_, m12_, (v49_), (by rw [ha.out]; exact putSel_upk 14 hb_ rfl rfl rfl), Q_HBr, fun h0_ => absurd ((hon 13 (by kernel_rfl)).symm.trans h0_) (by decide), Q_BL48, Q_RO49, fun _ h1_ => absurd ((hon 13 (by kernel_rfl)).symm.trans h1_) (by decide), Q_X12_, fun _ => rfl⟩
            exact steps_nil
          rintro b a w' hall ⟨g48_, v49_, m12_, m14_, ha, Q_HBr, Q_RO36, Q_BL48, Q_RO49, Q_NE36_48, Q_X12_, Q_X14_⟩
          clear HBr RO36
          have hb0_ := hall 0 (by kernel_rfl)
          have hb1_ := hall 1 (by kernel_rfl)
          have hb2_ := hall 2 (by kernel_rfl)
          have hb3_ := hall 3 (by kernel_rfl)
          have hb4_ := hall 4 (by kernel_rfl)
          have hb5_ := hall 5 (by kernel_rfl)
          have hb6_ := hall 6 (by kernel_rfl)
          have hb7_ := hall 7 (by kernel_rfl)
          have hb8_ := hall 8 (by kernel_rfl)
          have hb9_ := hall 9 (by kernel_rfl)
          have hb10_ := hall 10 (by kernel_rfl)
          have hb11_ := hall 11 (by kernel_rfl)
          have hb12_ := hall 12 (by kernel_rfl)
          have hb13_ := hall 13 (by kernel_rfl)
          have hb14_ := hall 14 (by kernel_rfl)
          subst ha
          obtain rfl := Q_X12_ hb12_
          obtain rfl := Q_X14_ hb14_
          simp only [putSel, hb0_, hb1_, hb2_, hb3_, hb4_, hb5_, hb6_, hb7_, hb8_, hb9_, hb10_, hb11_, hb12_, hb13_, hb14_, if_true, Act.put, List.setIfInBounds_toArray, List.set_cons_zero, List.set_cons_succ]
          have HBr := Aside0.mk Q_HBr
          clear Q_HBr
          clear Q_RO36
          have BL48 := Aside0.mk (Q_BL48 hb12_)
          clear Q_BL48
          have RO49 := Aside0.mk (Q_RO49 hb13_)
          clear Q_RO49
          clear Q_NE36_48
          clear hall hb0_ hb1_ hb2_ hb3_ hb4_ hb5_ hb6_ hb7_ hb8_ hb9_ hb10_ hb11_ hb12_ hb13_ hb14_
          go_wp2
          go_roundw
          case rel => exact ⟨k + 1, _, rfl, by omega, by go_num, by rw [F2.out]; exact RO49.out, HBr.out⟩
          case measure => simp [intOf]; omega
    · go_wp2
      go_ret
      have hk' : k = l.length := by omega
      subst hk'
      have g1 := HV.out
      rw [List.take_length] at g1
      exact ⟨_, rfl, g1, HB.out⟩
end Go.Proofs.YtpejloegidailaaDoor.An
