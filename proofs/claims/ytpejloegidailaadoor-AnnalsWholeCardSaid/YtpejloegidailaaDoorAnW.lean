/- AnnalsWhole's plain law: the rows that were answered are those of a history by themselves. No program in sight. -/
import Derived.Test.YtpejloegidailaaDoorAnC
namespace Go.Proofs.YtpejloegidailaaDoor.An
open Go.Proofs.YtpejloegidailaaDoor.X
set_option linter.unusedVariables false
set_option linter.unusedSimpArgs false

/-- Whether an event begins an operation that is never answered. -/
def oB (st : List Rw) (i : Nat) : Bool := st.any fun r => r.f3 == (i : Int) && !r.f5
def kept (o : Nat → Bool) : Nat → List Ev → List Ev
  | _, [] => []
  | i, e :: es => if o i then kept o (i + 1) es else e :: kept o (i + 1) es
theorem kept_snoc (o : Nat → Bool) : ∀ (es : List Ev) (i : Nat) (e : Ev), kept o i (es ++ [e]) = kept o i es ++ (if o (i + es.length) then [] else [e])
  | [], i, e => by simp [kept]
  | x :: es, i, e => by
    simp only [List.cons_append, kept, List.length_cons]
    rw [kept_snoc o es (i + 1) e, show i + 1 + es.length = i + (es.length + 1) by omega]
    split <;> simp
theorem kept_len (o : Nat → Bool) : ∀ (es : List Ev) (i : Nat), (kept o i es).length ≤ es.length
  | [], i => by simp [kept]
  | x :: es, i => by
    have := kept_len o es (i + 1)
    simp only [kept]
    split <;> simp <;> omega
theorem kept_mem (o : Nat → Bool) : ∀ (es : List Ev) (i : Nat), ∀ e ∈ kept o i es, e ∈ es
  | [], i, e, h => by simp [kept] at h
  | x :: es, i, e, h => by
    simp only [kept] at h
    split at h
    · exact List.mem_cons_of_mem _ (kept_mem o es (i + 1) e h)
    · rcases List.mem_cons.1 h with rfl | h
      · simp
      · exact List.mem_cons_of_mem _ (kept_mem o es (i + 1) e h)
/-- How many events ahead of i are kept. -/
def ph (o : Nat → Bool) : Nat → Nat
  | 0 => 0
  | n + 1 => ph o n + if o n then 0 else 1
theorem kept_ph (o : Nat → Bool) (es : List Ev) : ∀ n, n ≤ es.length → (kept o 0 (es.take n)).length = ph o n
  | 0, _ => by simp [kept, ph]
  | n + 1, h => by
    have ht : es.take (n + 1) = es.take n ++ [es[n]] := List.take_succ_eq_append_getElem (by omega)
    rw [ht, kept_snoc, List.length_append, kept_ph o es n (by omega)]
    have : 0 + (es.take n).length = n := by simp; omega
    rw [this]
    show _ = ph o n + (if o n then 0 else 1)
    split <;> simp
theorem ph_mono (o : Nat → Bool) {x y : Nat} (h : x ≤ y) : ph o x ≤ ph o y := by
  induction y with
  | zero => obtain rfl : x = 0 := by omega
            exact Nat.le_refl _
  | succ y ih =>
    rcases Nat.lt_or_ge x (y + 1) with h1 | h1
    · have := ih (by omega)
      have h2 : ph o (y + 1) = ph o y + (if o y then 0 else 1) := rfl
      omega
    · obtain rfl : x = y + 1 := by omega
      exact Nat.le_refl _
theorem ph_lt (o : Nat → Bool) {x y : Nat} (h : x < y) (ho : o x = false) : ph o x < ph o y := by
  have h1 : ph o (x + 1) = ph o x + 1 := by show ph o x + (if o x then 0 else 1) = _; rw [ho]; rfl
  have h2 := ph_mono o (show x + 1 ≤ y from h)
  omega
def ren (o : Nat → Bool) (r : Rw) : Rw := ⟨r.f0, r.f1, r.f2, (ph o r.f3.toNat : Int), if r.f5 then (ph o r.f4.toNat : Int) else 0, r.f5⟩

/-! ### what stays of a row -/
def Ext (st st' : List Rw) : Prop := ∀ (i : Nat) (r : Rw), st[i]? = some r → ∃ r' : Rw, st'[i]? = some r' ∧ r'.f3 = r.f3 ∧ (r.f5 = true → r'.f5 = true)
theorem Ext.refl (st : List Rw) : Ext st st := fun i r h => ⟨r, h, rfl, id⟩
theorem Ext.trans {a b c : List Rw} (h : Ext a b) (h' : Ext b c) : Ext a c := fun i r hr => by
  obtain ⟨r1, h1, e1, d1⟩ := h i r hr
  obtain ⟨r2, h2, e2, d2⟩ := h' i r1 h1
  exact ⟨r2, h2, e2.trans e1, fun d => d2 (d1 d)⟩
theorem rstep_ext {st st' : List Rw} {i : Nat} {e : Ev} (h : rstep st i e = .ok st') : Ext st st' := by
  rcases rstep_ok h with ⟨_, _, _, rfl⟩ | ⟨_, _, k, r0, _, hk, _, hd, rfl⟩
  · exact fun j r hr => ⟨r, get_front hr, rfl, id⟩
  · intro j r hr
    by_cases hj : j = k
    · subst hj
      obtain rfl := Option.some.inj (hr.symm.trans hk)
      exact ⟨endRow r e i, by simp [lt_of_get hr], rfl, fun _ => rfl⟩
    · exact ⟨r, by rw [List.getElem?_set, if_neg (fun e => hj e.symm)]; exact hr, rfl, id⟩
theorem rfold_ext : ∀ (es : List Ev) (i : Nat) (st st' : List Rw), rfold es i st = .ok st' → Ext st st'
  | [], i, st, st', h => by
    obtain rfl : st = st' := by simpa [rfold] using h
    exact Ext.refl _
  | e :: es, i, st, st', h => by
    simp only [rfold] at h
    cases hs : rstep st i e with
    | error c => rw [hs] at h; cases h
    | ok s1 =>
      rw [hs] at h
      exact (rstep_ext hs).trans (rfold_ext es (i + 1) s1 st' h)
theorem rows_ext {x y : List Ev} {s t : List Rw} (h : rowsM x = .ok s) (h' : rowsM (x ++ y) = .ok t) : Ext s t := by
  unfold rowsM at h h'
  rw [rfold_append, h] at h'
  exact rfold_ext _ _ _ _ h'
/-- Of a row of the history itself: whether its beginning is kept. -/
theorem oB_row {es : List Ev} {st : List Rw} (I : HInv es st) {i : Nat} {r : Rw} (hr : st[i]? = some r) : oB st r.f3.toNat = !r.f5 := by
  have h0 := (I.from0 i r hr).1
  unfold oB
  rw [Bool.eq_iff_iff, List.any_eq_true]
  constructor
  · rintro ⟨s, hs, hh⟩
    obtain ⟨j, hj, rfl⟩ := List.getElem_of_mem hs
    simp only [Bool.and_eq_true, beq_iff_eq] at hh
    have hjs := List.getElem?_eq_getElem hj
    rcases Nat.lt_trichotomy i j with h | h | h
    · have := I.rise i j r _ h hr hjs; omega
    · subst h
      have e := Option.some.inj (hr.symm.trans hjs)
      rw [e]; exact hh.2
    · have := I.rise j i _ r h hjs hr; omega
  · intro h
    exact ⟨r, List.mem_of_getElem? hr, by simp only [Bool.and_eq_true, beq_iff_eq]; exact ⟨by omega, h⟩⟩
/-- An event that begins nothing is kept. -/
theorem oB_end {es : List Ev} {st : List Rw} (I : HInv es st) {i : Nat} {e : Ev} (he : es[i]? = some e) (h1 : e.f1 = false) : oB st i = false := by
  rw [Bool.eq_false_iff]
  intro hh
  obtain ⟨s, hs, hh⟩ := List.any_eq_true.1 hh
  obtain ⟨j, hj, rfl⟩ := List.getElem_of_mem hs
  simp only [Bool.and_eq_true, beq_iff_eq] at hh
  have h2 := I.evF j _ (List.getElem?_eq_getElem hj)
  rw [hh.1, Int.toNat_natCast, he] at h2
  have := Option.some.inj h2
  rw [this] at h1
  cases h1
theorem undr_filter {st : List Rw} {t : Int} (q : Rw → Bool) (f : Rw → Rw) (hf : ∀ r, (f r).f0 = r.f0 ∧ (f r).f5 = r.f5) (h : undr st t = none) : undr ((st.filter q).map f) t = none := by
  unfold undr at h ⊢
  rw [List.findIdx?_eq_none_iff] at h ⊢
  intro x hx
  obtain ⟨r, hr, rfl⟩ := List.mem_map.1 hx
  have := h r ((List.mem_filter.1 hr).1)
  rw [(hf r).1, (hf r).2]
  exact this
theorem ren_f (o : Nat → Bool) (r : Rw) : (ren o r).f0 = r.f0 ∧ (ren o r).f5 = r.f5 := ⟨rfl, rfl⟩
theorem split_at {st : List Rw} {k : Nat} {r : Rw} (h : st[k]? = some r) : st = st.take k ++ r :: st.drop (k + 1) := by
  have hl := lt_of_get h
  have e : st[k] = r := by rw [List.getElem?_eq_getElem hl] at h; exact Option.some.inj h
  conv => lhs; rw [← List.take_append_drop k st, List.drop_eq_getElem_cons hl, e]
theorem set_split {st : List Rw} {k : Nat} {r x : Rw} (h : st[k]? = some r) : st.set k x = st.take k ++ x :: st.drop (k + 1) := by
  have hl := lt_of_get h
  conv => lhs; rw [split_at h]
  rw [List.set_append_right _ _ (by rw [List.length_take]; exact Nat.min_le_left _ _), List.length_take, Nat.min_eq_left (by omega), Nat.sub_self]
  rfl
/-- The history without the beginnings of what is never answered. -/
theorem kept_rows (es : List Ev) (st : List Rw) (h : rowsM es = .ok st) : ∀ n, n ≤ es.length → ∀ s, rowsM (es.take n) = .ok s →
    rowsM (kept (oB st) 0 (es.take n)) = .ok ((s.filter fun r => !oB st r.f3.toNat).map (ren (oB st)))
  | 0, _, s, hs => by
    obtain rfl : [] = s := by simpa [rowsM, rfold] using hs
    simp [kept, rowsM, rfold]
  | n + 1, hn, s, hs => by
    have I := inv_of h
    obtain ⟨e, he⟩ : ∃ e, es[n]? = some e := ⟨es[n], List.getElem?_eq_getElem (by omega)⟩
    have ht : es.take (n + 1) = es.take n ++ [e] := by
      rw [List.take_succ_eq_append_getElem (by omega)]
      rw [List.getElem?_eq_getElem (by omega)] at he
      rw [Option.some.inj he]
    obtain ⟨s0, h0⟩ := rowsM_front (es.take n) [e] (by rw [← ht]; exact hs)
    have ih := kept_rows es st h n (by omega) s0 h0
    have hstep : rstep s0 n e = .ok s := by
      have := rowsM_snoc (es.take n) e h0
      rw [← ht, hs, List.length_take, Nat.min_eq_left (by omega)] at this
      exact this.symm
    have I0 := inv_of h0
    have hext : Ext s st := rows_ext (y := es.drop (n + 1)) hs (by rw [List.take_append_drop]; exact h)
    have hkl : (kept (oB st) 0 (es.take n)).length = ph (oB st) n := kept_ph _ es n (by omega)
    have hnl : 0 + (es.take n).length = n := by simp; omega
    rw [ht, kept_snoc, hnl]
    rcases rstep_ok hstep with ⟨h1, h3, hu, rfl⟩ | ⟨h1, h2, k, r, hu, hk, hr0, hd, rfl⟩
    · have hnw : (newRow e n).f3.toNat = n := by simp [newRow]
      rw [List.filter_append, List.map_append]
      cases ho : oB st n
      · have hfl : [newRow e n].filter (fun r : Rw => !oB st r.f3.toNat) = [newRow e n] := by simp [List.filter_cons, hnw, ho]
        rw [hfl]
        simp only [Bool.false_eq_true, if_false]
        rw [rowsM_snoc _ _ ih, hkl]
        have hu2 := undr_filter (fun r : Rw => !oB st r.f3.toNat) (ren (oB st)) (ren_f _) hu
        have hv : isEv e = true := by unfold isEv; rw [h1]; simp only [if_true]; rw [h3]; exact eqB38_self _
        simp only [rstep, hv, if_true, hu2, h1]
        simp [ren, newRow]
      · have hfl : [newRow e n].filter (fun r : Rw => !oB st r.f3.toNat) = [] := by simp [List.filter_cons, hnw, ho]
        rw [hfl]
        simpa using ih
    · have ho : oB st n = false := oB_end I he h1
      have hkr : oB st r.f3.toNat = false := by
        obtain ⟨r', hr', e3, e5⟩ := hext k (endRow r e n) (by simp [lt_of_get hk])
        have h9 := oB_row I hr'
        rw [e3, e5 rfl] at h9
        simpa [endRow] using h9
      have hv : isEv e = true := by unfold isEv; rw [h1]; simp only [Bool.false_eq_true, if_false]; rw [h2]; exact eqB36_self _
      have hnone : ∀ x ∈ s0.take k, (x.f0 == e.f0 && !x.f5) = false := by
        obtain ⟨_, _, hb⟩ := List.findIdx?_eq_some_iff_getElem.1 hu
        intro x hx
        obtain ⟨j, hj, rfl⟩ := List.getElem_of_mem hx
        have hj2 : j < k := by simp at hj; omega
        have := hb j hj2
        simpa using this
      rw [ho]
      simp only [Bool.false_eq_true, if_false]
      rw [rowsM_snoc _ _ ih, hkl]
      have hs0 := split_at hk
      have hss := set_split (x := endRow r e n) hk
      have hL : ((s0.filter fun r : Rw => !oB st r.f3.toNat).map (ren (oB st))) = ((s0.take k).filter fun r : Rw => !oB st r.f3.toNat).map (ren (oB st)) ++ ren (oB st) r :: ((s0.drop (k + 1)).filter fun r : Rw => !oB st r.f3.toNat).map (ren (oB st)) := by
        conv => lhs; rw [hs0]
        rw [List.filter_append, List.map_append, List.filter_cons, hkr]
        simp
      have hR : (((s0.set k (endRow r e n)).filter fun r : Rw => !oB st r.f3.toNat).map (ren (oB st))) = ((s0.take k).filter fun r : Rw => !oB st r.f3.toNat).map (ren (oB st)) ++ ren (oB st) (endRow r e n) :: ((s0.drop (k + 1)).filter fun r : Rw => !oB st r.f3.toNat).map (ren (oB st)) := by
        rw [hss, List.filter_append, List.map_append, List.filter_cons]
        have : oB st (endRow r e n).f3.toNat = false := hkr
        rw [this]
        simp
      rw [hL, hR]
      generalize hP : ((s0.take k).filter fun r : Rw => !oB st r.f3.toNat).map (ren (oB st)) = P
      generalize ((s0.drop (k + 1)).filter fun r : Rw => !oB st r.f3.toNat).map (ren (oB st)) = Q
      have hPn : ∀ x ∈ P, (x.f0 == e.f0 && !x.f5) = false := by
        rw [← hP]
        intro x hx
        obtain ⟨y, hy, rfl⟩ := List.mem_map.1 hx
        exact hnone y ((List.mem_filter.1 hy).1)
      have hu3 : undr (P ++ ren (oB st) r :: Q) e.f0 = some P.length := by
        unfold undr
        rw [List.findIdx?_append, List.findIdx?_eq_none_iff.2 (fun x hx => hPn x hx)]
        simp [List.findIdx?_cons, ren, hr0, hd]
      have hg : (P ++ ren (oB st) r :: Q).getD P.length z40 = ren (oB st) r := by simp [List.getD]
      simp only [rstep, hv, if_true, hu3, h1, Bool.false_eq_true, if_false]
      rw [hg, List.set_append_right _ _ (Nat.le_refl _), Nat.sub_self]
      simp [endRow, ren, hd]
theorem whole_filter {es : List Ev} {st : List Rw} (I : HInv es st) : (st.filter fun r => !oB st r.f3.toNat) = wholeM st := by
  unfold wholeM
  refine List.filter_congr (fun r hr => ?_)
  obtain ⟨i, hi, rfl⟩ := List.getElem_of_mem hr
  rw [oB_row I (List.getElem?_eq_getElem hi)]
  simp
theorem kept_all {es : List Ev} {st : List Rw} (h : rowsM es = .ok st) : rowsM (kept (oB st) 0 es) = .ok ((wholeM st).map (ren (oB st))) := by
  have := kept_rows es st h es.length (Nat.le_refl _) st (by rw [List.take_length]; exact h)
  rw [List.take_length, whole_filter (inv_of h)] at this
  exact this
theorem ren_ahead {es : List Ev} {st : List Rw} (I : HInv es st) {r s : Rw} (hr : r ∈ wholeM st) (hs : s ∈ wholeM st) : aheadB (ren (oB st) r) (ren (oB st) s) = aheadB r s := by
  obtain ⟨hr1, hr5⟩ := List.mem_filter.1 hr
  obtain ⟨hs1, hs5⟩ := List.mem_filter.1 hs
  obtain ⟨i, hi, rfl⟩ := List.getElem_of_mem hr1
  obtain ⟨j, hj, rfl⟩ := List.getElem_of_mem hs1
  generalize hx : st[i] = x at *
  generalize hy : st[j] = y at *
  have hxi : st[i]? = some x := by rw [← hx]; exact List.getElem?_eq_getElem hi
  have hyj : st[j]? = some y := by rw [← hy]; exact List.getElem?_eq_getElem hj
  have h1 := I.from0 i x hxi
  have h2 := I.done i x hxi hr5
  have h3 := I.from0 j y hyj
  have hT := I.evT i x hxi hr5
  have ho := oB_end I hT rfl
  have hr5' : x.f5 = true := hr5
  unfold aheadB ren
  simp only [hr5', if_true, Bool.true_and, decide_eq_decide]
  constructor
  · intro h
    refine Int.lt_of_not_ge (fun hge => ?_)
    have := ph_mono (oB st) (show y.f3.toNat ≤ x.f4.toNat by omega)
    omega
  · intro h
    have := ph_lt (oB st) (show x.f4.toNat < y.f3.toNat by omega) ho
    omega
end Go.Proofs.YtpejloegidailaaDoor.An
