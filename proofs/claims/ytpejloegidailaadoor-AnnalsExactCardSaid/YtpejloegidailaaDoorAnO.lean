/- The document's Same; two rows are at one place: none. -/
import Derived.Test.YtpejloegidailaaDoorAnN
namespace Go.Proofs.YtpejloegidailaaDoor.An
open Go.RowKit Go.Proofs.YtpejloegidailaaDoorW.PrintWords Go.Proofs.YtpejloegidailaaDoorW.PrintLast Go.Proofs.YtpejloegidailaaDoorW.PrintMore Go.Proofs.YtpejloegidailaaDoor.X
set_option linter.unusedVariables false
set_option linter.unusedSimpArgs false
attribute [local go_sem high] eqA38 eqA36 eqA44 eqA40

set_option maxHeartbeats 1000000 in
theorem rsame_c {u v : Value} {a b : List Rw} {w : World} (ha : Sl k40 w u a) (hb : Sl k40 w v b) :
    Calls Tryd.prog 19 #[u, v] w fun e w' => e = .returned (.bool (decide (a = b))) ∧ Below w.heap.size w w' := by
  obtain ⟨A, c, rfl, _, ca⟩ := ha
  obtain ⟨B, d, rfl, _, cb⟩ := hb
  have hla := Kd.C_max ca
  have hlb := Kd.C_max cb
  have h1 := Tryd.underlying40
  have h2 := Tryd.underlying36
  have h3 := Tryd.underlying38
  have CA := Aside0.mk ca
  clear ca
  have CB := Aside0.mk cb
  clear cb
  by_cases hlen : a.length = b.length
  · have hl1 : (a.length != b.length) = false := by simp [hlen]
    have hl2 : ((a.length : Int) != (b.length : Int)) = false := by simp [hlen]
    have HLEN := Aside0.mk hlen
    clear hlen
    go_enter Tryd.func19, Tryd.ntmps19
    go_wp2
    go_loopw [5] (fun i wr => ∃ k : Nat, k ≤ a.length ∧ i = .int .i64 k ∧ Below w.heap.size w wr ∧ a.take k = b.take k) (fun i _ => a.length - (intOf i).toNat)
    case atStart => exact ⟨0, Nat.zero_le _, rfl, Below.refl _ _, rfl⟩
    case round =>
      obtain ⟨k, hkl, rfl, hb, he⟩ := hrel
      have HB := Aside0.mk hb
      clear hb
      have HE := Aside0.mk he
      clear he
      by_cases hlt : k < a.length
      · have hlt2 : k < b.length := by rw [← HLEN.out]; exact hlt
        have hkk : (0 : Int) ≤ (k : Int) := by omega
        have hkn : (k : Int) < (a.length : Int) := by omega
        have hkm : (k : Int) < (b.length : Int) := by omega
        have hta := take_snoc a z40 k hlt
        have htb := take_snoc b z40 k hlt2
        have hra : rd_T40 a (k : Int) = a.getD k z40 := by simp [rd_T40]
        have hrb : rd_T40 b (k : Int) = b.getD k z40 := by simp [rd_T40]
        rw [← hra] at hta
        rw [← hrb] at htb
        have HTA := Aside0.mk hta
        clear hta
        have HTB := Aside0.mk htb
        clear htb
        have HRA := Aside0.mk hra
        clear hra
        have HRB := Aside0.mk hrb
        clear hrb
        obtain ⟨ad, eA, q0, q1, q2, q3, q4, q5, q6, q7, q8, q9⟩ := at_T40 CA.out (k : Int) (by omega) (by omega)
        replace q0 := pw_cell_below HB.out q0
        replace q1 := pw_cell_below HB.out q1
        replace q2 := pw_cell_below HB.out q2
        replace q3 := pw_cell_below HB.out q3
        replace q4 := pw_cell_below HB.out q4
        replace q5 := pw_cell_below HB.out q5
        replace q6 := pw_cell_below HB.out q6
        replace q7 := pw_cell_below HB.out q7
        replace q8 := pw_cell_below HB.out q8
        replace q9 := pw_cell_below HB.out q9
        simp only [Int.toNat_natCast] at q0 q1 q2 q3 q4 q5 q6 q7 q8 q9
        cases eA
        obtain ⟨ad, eA, r0, r1, r2, r3, r4, r5, r6, r7, r8, r9⟩ := at_T40 CB.out (k : Int) (by omega) (by omega)
        replace r0 := pw_cell_below HB.out r0
        replace r1 := pw_cell_below HB.out r1
        replace r2 := pw_cell_below HB.out r2
        replace r3 := pw_cell_below HB.out r3
        replace r4 := pw_cell_below HB.out r4
        replace r5 := pw_cell_below HB.out r5
        replace r6 := pw_cell_below HB.out r6
        replace r7 := pw_cell_below HB.out r7
        replace r8 := pw_cell_below HB.out r8
        replace r9 := pw_cell_below HB.out r9
        simp only [Int.toNat_natCast] at r0 r1 r2 r3 r4 r5 r6 r7 r8 r9
        cases eA
        cases hq : eqB40 (rd_T40 a (k : Int)) (rd_T40 b (k : Int))
        · have hn : decide (a = b) = false := by
            simp only [decide_eq_false_iff_not]
            rintro rfl
            rw [eqB40_self] at hq
            cases hq
          have HN := Aside0.mk hn
          clear hn
          simp only [eqB40, eqB36, eqB38] at hq
          go_wp2
          go_quiet (fail)
          go_wp2
          go_ret
          exact ⟨by rw [HN.out]; rfl, pw_below_drewN HB.out _⟩
        · have he2 : a.take (k + 1) = b.take (k + 1) := by rw [HTA.out, HTB.out, HE.out, (eqB40_iff _ _).1 hq]
          have HE2 := Aside0.mk he2
          clear he2
          simp only [eqB40, eqB36, eqB38] at hq
          go_wp2
          go_quiet (fail)
          go_wp2
          go_roundw
          case rel => exact ⟨k + 1, by omega, by go_num, pw_below_drewN HB.out _, HE2.out⟩
          case measure => simp [intOf]; omega
      · go_wp2
        go_ret
        have hk' : k = a.length := by omega
        have h1 := HE.out
        rw [hk', List.take_length, HLEN.out, List.take_length] at h1
        exact ⟨by rw [h1]; simp, HB.out⟩
  · have hl1 : (a.length != b.length) = true := by simp [hlen]
    have hl2 : ((a.length : Int) != (b.length : Int)) = true := by simp; omega
    have hf : decide (a = b) = false := by simp; rintro rfl; exact hlen rfl
    rw [hf]
    clear hlen hf
    go_enter Tryd.func19, Tryd.ntmps19
    go_wp2
    go_ret
    exact ⟨rfl, Below.refl _ _⟩

/-! ### no two rows at one place -/
theorem ofM_inv {l : List Rw} {out : List Ev} (h : ofM l = some out) : HInv out l := by
  unfold ofM at h
  split at h
  · cases h
  · cases hr : rowsM (ofOut l) with
    | error c => rw [hr] at h; cases h
    | ok back =>
      rw [hr] at h
      simp only [] at h
      split at h
      · rename_i hb
        injection h with h
        subst hb h
        exact inv_of hr
      · cases h
theorem inv_self {es : List Ev} {l : List Rw} (I : HInv es l) {j : Nat} {s : Rw} (hs : l[j]? = some s) (h5 : s.f5 = true) : s.f4 ≠ s.f3 := by
  have := I.done j s hs h5
  omega
theorem inv_ff {es : List Ev} {l : List Rw} (I : HInv es l) {i j : Nat} {r s : Rw} (hij : i < j) (hr : l[i]? = some r) (hs : l[j]? = some s) : s.f3 ≠ r.f3 := by
  have := I.rise i j r s hij hr hs
  omega
theorem inv_ft {es : List Ev} {l : List Rw} (I : HInv es l) {i j : Nat} {r s : Rw} (hr : l[i]? = some r) (hs : l[j]? = some s) (h5 : r.f5 = true) : s.f3 ≠ r.f4 := by
  intro h
  have h1 := I.evF j s hs
  have h2 := I.evT i r hr h5
  rw [h, h2] at h1
  injection h1 with h1
  injection h1 with _ h1
  cases h1
theorem inv_tt {es : List Ev} {l : List Rw} (I : HInv es l) {i j : Nat} {r s : Rw} (hij : i < j) (hr : l[i]? = some r) (hs : l[j]? = some s) (h5 : r.f5 = true) (h5' : s.f5 = true) : s.f4 ≠ r.f4 := by
  intro h
  have h1 := I.evT j s hs h5'
  have h2 := I.evT i r hr h5
  rw [h, h2] at h1
  injection h1 with h1
  injection h1 with h0 _
  have h3 := I.order i j r s hij hr hs h0
  have h4 := I.done j s hs h5'
  omega
/-- The places of rows. -/
def plc (r : Rw) : List Int := if r.f5 then [r.f3, r.f4] else [r.f3]
def plcs (l : List Rw) : List Int := l.flatMap plc
theorem plcs_snoc (l : List Rw) (k : Nat) (h : k < l.length) (x : Rw) (hx : l.getD k z40 = x) : plcs (l.take (k + 1)) = plcs (l.take k) ++ plc x := by
  rw [take_snoc l z40 k h, hx]
  simp [plcs]
theorem plcs_mem {l : List Rw} {k : Nat} {p : Int} (h : p ∈ plcs (l.take k)) : ∃ i r, i < k ∧ l[i]? = some r ∧ (p = r.f3 ∨ r.f5 = true ∧ p = r.f4) := by
  obtain ⟨r, hr, hp⟩ := List.mem_flatMap.1 h
  obtain ⟨i, hi, he⟩ := List.mem_take_iff_getElem.1 hr
  refine ⟨i, r, by omega, by rw [List.getElem?_eq_getElem (by omega), he], ?_⟩
  unfold plc at hp
  split at hp
  · rename_i h5
    simp at hp
    rcases hp with hp | hp
    · exact .inl hp
    · exact .inr ⟨h5, hp⟩
  · simp at hp
    exact .inl hp
/-- A place that is taken: there is nothing that these rows are made of. -/
theorem of_dupF {l : List Rw} {k : Nat} {x : Rw} (hx : l[k]? = some x) (h : x.f3 ∈ plcs (l.take k)) : ofM l = none := by
  cases ho : ofM l with
  | none => rfl
  | some out =>
    exfalso
    have I := ofM_inv ho
    obtain ⟨i, r, hi, hr, hp | ⟨h5, hp⟩⟩ := plcs_mem h
    · exact inv_ff I hi hr hx hp
    · exact inv_ft I hr hx h5 hp
theorem of_dupT {l : List Rw} {k : Nat} {x : Rw} (hx : l[k]? = some x) (h5 : x.f5 = true) (h : x.f4 ∈ plcs (l.take k) ++ [x.f3]) : ofM l = none := by
  cases ho : ofM l with
  | none => rfl
  | some out =>
    exfalso
    have I := ofM_inv ho
    rw [List.mem_append] at h
    rcases h with h | h
    · obtain ⟨i, r, hi, hr, hp | ⟨h5', hp⟩⟩ := plcs_mem h
      · exact inv_ft I hx hr h5 hp.symm
      · exact inv_tt I hi hr hx h5' h5 hp
    · exact inv_self I hx h5 (List.mem_singleton.1 h)
/-- The list of the places that are taken. -/
def hasL (n : Nat) (ps : List Int) : List Bool := (List.range n).map fun (p : Nat) => decide ((p : Int) ∈ ps)
theorem hasL_len (n : Nat) (ps : List Int) : (hasL n ps).length = n := by simp [hasL]
theorem hasL_at (n : Nat) (ps : List Int) (p : Int) (h0 : 0 ≤ p) (h1 : p < n) : (hasL n ps)[p.toNat]? = some (decide (p ∈ ps)) := by
  unfold hasL
  rw [List.getElem?_map, List.getElem?_range (by omega)]
  simp only [Option.map_some]
  rw [show ((p.toNat : Nat) : Int) = p by omega]
theorem hasL_set (n : Nat) (ps : List Int) (p : Int) (h0 : 0 ≤ p) (h1 : p < n) : (hasL n ps).set p.toNat true = hasL n (ps ++ [p]) := by
  refine List.ext_getElem? (fun i => ?_)
  rw [List.getElem?_set]
  unfold hasL
  rw [List.getElem?_map, List.getElem?_map, List.length_map, List.length_range]
  by_cases hi : p.toNat = i
  · subst hi
    rw [if_pos rfl, if_pos (by omega), List.getElem?_range (by omega)]
    simp only [Option.map_some]
    rw [show ((p.toNat : Nat) : Int) = p by omega]
    simp
  · rw [if_neg hi]
    by_cases hn : i < n
    · rw [List.getElem?_range hn]
      simp only [Option.map_some]
      congr 1
      rw [decide_eq_decide, List.mem_append, List.mem_singleton]
      constructor
      · exact fun h => .inl h
      · rintro (h | h)
        · exact h
        · omega
    · rw [List.getElem?_eq_none (by simpa using hn)]
      rfl
theorem hasL_nil (n : Nat) : hasL n [] = List.replicate n false := by
  refine List.ext_getElem? (fun i => ?_)
  unfold hasL
  rw [List.getElem?_map, List.getElem?_replicate]
  by_cases hn : i < n
  · rw [List.getElem?_range hn, if_pos hn]; simp
  · rw [List.getElem?_eq_none (by simpa using hn), if_neg hn]; rfl
end Go.Proofs.YtpejloegidailaaDoor.An
