/- What the map of Rows reads as. -/
import Derived.Test.YtpejloegidailaaDoorAnC
namespace Go.Proofs.YtpejloegidailaaDoor.An
open Go.Maps Go.Proofs.YtpejloegidailaaDoor.X
set_option linter.unusedVariables false
set_option linter.unusedSimpArgs false

abbrev kl (t : Int) : Lit := .int .i64 t
abbrev dv (n : Int) : DataW Unit := .lit (.int .i64 n)
theorem dv_inj {a b : Int} (h : dv a = dv b) : a = b := by
  have h1 := DataW.lit.inj h
  exact (Lit.int.inj h1).2
/-- The map reads as the rows that are under way. -/
def Rep (D : DataW Unit) (st : List Rw) : Prop := IsMap D ∧ ∀ t, Maps.has D (kl t) = (undr st t).isSome ∧ ∀ k : Nat, undr st t = some k → D.atKey (kl t) (dv 0) = dv (k : Int)
theorem rep_nil : Rep (.map []) [] := ⟨isMap_empty, fun t => ⟨rfl, fun k h => by simp [undr] at h⟩⟩
theorem undr_snoc (st : List Rw) (e : Ev) (i : Nat) (t : Int) : undr (st ++ [newRow e i]) t = match undr st t with
    | some k => some k
    | none => if e.f0 = t then some st.length else none := by
  unfold undr
  rw [List.findIdx?_append]
  cases h : st.findIdx? (fun r : Rw => r.f0 == t && !r.f5)
  · by_cases ht : e.f0 = t
    · simp [newRow, List.findIdx?_cons, ht]
    · simp [newRow, List.findIdx?_cons, ht]
  · simp
theorem kl_ne {t t' : Int} (h : t' ≠ t) : kl t' ≠ kl t := fun e => h (by injection e)
theorem rep_put {D : DataW Unit} {st : List Rw} (h : Rep D st) (e : Ev) (i : Nat) (hu : undr st e.f0 = none) : Rep (D.put (kl e.f0) (dv (st.length : Int))) (st ++ [newRow e i]) := by
  refine ⟨h.1.put _ _, fun t => ?_⟩
  rw [undr_snoc]
  by_cases ht : t = e.f0
  · subst ht
    rw [hu]
    simp only [if_true]
    refine ⟨by rw [has_put_same h.1 (show WideAt.IsKeyLit (kl e.f0) from trivial)]; rfl, fun k hk => ?_⟩
    obtain rfl : st.length = k := by simpa using hk
    exact atKey_put_same h.1 (show WideAt.IsKeyLit (kl e.f0) from trivial) _ _
  · obtain ⟨h1, h2⟩ := h.2 t
    rw [has_put_other (kl_ne ht), h1]
    rw [if_neg (fun e => ht e.symm)]
    cases hh : undr st t with
    | none => exact ⟨rfl, fun k hk => by cases hk⟩
    | some k0 => exact ⟨rfl, fun k hk => by rw [atKey_put_other (kl_ne ht)]; exact h2 k (by rw [hh]; exact hk)⟩
theorem findIdx_set (p : Rw → Bool) (l : List Rw) (k : Nat) (r x : Rw) (h : l[k]? = some r) (hp : p x = p r) : (l.set k x).findIdx? p = l.findIdx? p := by
  have e : (l.set k x).map p = l.map p := by
    refine List.ext_getElem? (fun i => ?_)
    rw [List.getElem?_map, List.getElem?_map, List.getElem?_set]
    split
    · rename_i hi
      subst hi
      split
      · rw [h]; simp [hp]
      · rw [h]; rename_i hl; exact absurd (List.getElem?_eq_some_iff.1 h).1 hl
    · rfl
  have h1 := @List.findIdx?_map _ _ (fun b : Bool => b) p (l.set k x)
  have h2 := @List.findIdx?_map _ _ (fun b : Bool => b) p l
  rw [e, h2] at h1
  exact h1.symm
theorem undr_set {es : List Ev} {st : List Rw} (I : HInv es st) (e : Ev) (i k : Nat) (r : Rw) (hk : undr st e.f0 = some k) (hr : st[k]? = some r) (h0 : r.f0 = e.f0) (h5 : r.f5 = false) (t : Int) :
    undr (st.set k (endRow r e i)) t = if t = e.f0 then none else undr st t := by
  by_cases ht : t = e.f0
  · subst ht
    rw [if_pos rfl]
    unfold undr
    rw [List.findIdx?_eq_none_iff]
    intro x hx
    obtain ⟨j, hj, rfl⟩ := List.getElem_of_mem hx
    rcases get_set (List.getElem?_eq_getElem hj) with ⟨hne, hj2⟩ | ⟨rfl, he⟩
    · generalize (st.set k (endRow r e i))[j] = y at hj2
      rw [Bool.eq_false_iff]
      intro hh
      simp only [Bool.and_eq_true, beq_iff_eq, Bool.not_eq_true'] at hh
      rcases Nat.lt_or_gt_of_ne hne with hl | hl
      · have := (I.order j k y r hl hj2 hr (by rw [hh.1, h0])).1
        rw [hh.2] at this; cases this
      · have := (I.order k j r y hl hr hj2 (by rw [hh.1, h0])).1
        rw [h5] at this; cases this
    · rw [he]; simp [endRow]
  · rw [if_neg ht]
    unfold undr
    refine findIdx_set _ st k r _ hr ?_
    simp only [endRow, h0, Bool.not_true, Bool.and_false]
    rw [show (e.f0 == t) = false by simpa using fun e' => ht e'.symm, Bool.false_and]
theorem rep_del {es : List Ev} {D : DataW Unit} {st : List Rw} (I : HInv es st) (h : Rep D st) (e : Ev) (i k : Nat) (r : Rw) (hk : undr st e.f0 = some k) (hr : st[k]? = some r) (h0 : r.f0 = e.f0) (h5 : r.f5 = false) :
    Rep (D.del (kl e.f0)) (st.set k (endRow r e i)) := by
  refine ⟨h.1.del _, fun t => ?_⟩
  rw [undr_set I e i k r hk hr h0 h5]
  by_cases ht : t = e.f0
  · subst ht
    rw [if_pos rfl, has_del_same]
    exact ⟨rfl, fun k hk => by cases hk⟩
  · rw [if_neg ht, has_del_other (kl_ne ht)]
    exact ⟨(h.2 t).1, fun k hk => by rw [atKey_del_other (kl_ne ht)]; exact (h.2 t).2 k hk⟩
/-- An event's ways. -/
theorem undr_row {st : List Rw} {t : Int} {k : Nat} (h : undr st t = some k) : ∃ r, st[k]? = some r ∧ r.f0 = t ∧ r.f5 = false ∧ k < st.length := by
  obtain ⟨hl, hp, _⟩ := List.findIdx?_eq_some_iff_getElem.1 h
  have hp2 : st[k].f0 = t ∧ st[k].f5 = false := by simpa using hp
  exact ⟨st[k], List.getElem?_eq_getElem hl, hp2.1, hp2.2, hl⟩
theorem rstep_bad (st : List Rw) (i : Nat) (e : Ev) (h : isEv e = false) : rstep st i e = .error 1 := by simp [rstep, h]
theorem rstep_twice (st : List Rw) (i k : Nat) (e : Ev) (h : isEv e = true) (h1 : e.f1 = true) (hu : undr st e.f0 = some k) : rstep st i e = .error 5 := by simp [rstep, h, h1, hu]
theorem rstep_new (st : List Rw) (i : Nat) (e : Ev) (h : isEv e = true) (h1 : e.f1 = true) (hu : undr st e.f0 = none) : rstep st i e = .ok (st ++ [newRow e i]) := by simp [rstep, h, h1, hu]
theorem rstep_end (st : List Rw) (i k : Nat) (e : Ev) (r : Rw) (h : isEv e = true) (h1 : e.f1 = false) (hu : undr st e.f0 = some k) (hr : st[k]? = some r) : rstep st i e = .ok (st.set k (endRow r e i)) := by simp [rstep, h, h1, hu, List.getD, hr]
theorem rstep_none (st : List Rw) (i : Nat) (e : Ev) (h : isEv e = true) (h1 : e.f1 = false) (hu : undr st e.f0 = none) : rstep st i e = .error 5 := by simp [rstep, h, h1, hu]
/-- The row while its end is written: To, Done, Answer in whatever order. -/
def mixR (p q s : Bool) (r : Rw) (e : Ev) (i : Nat) : Rw := ⟨r.f0, r.f1, bif s then e.f3 else r.f2, r.f3, bif p then (i : Int) else r.f4, bif q then true else r.f5⟩
theorem mixR_no (r : Rw) (e : Ev) (i : Nat) : mixR false false false r e i = r := rfl
theorem mixR_all (r : Rw) (e : Ev) (i : Nat) : mixR true true true r e i = endRow r e i := rfl
theorem rows_len {es : List Ev} {st : List Rw} (h : rowsM es = .ok st) : st.length ≤ es.length := by have := (inv_of h).count; omega
end Go.Proofs.YtpejloegidailaaDoor.An
