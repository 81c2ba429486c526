/- Histories as plain lists: the events of beats, the rows of events, the events of rows. No program in sight. -/
import Derived.Test.YtpejloegidailaaDoorX2
namespace Go.Proofs.YtpejloegidailaaDoor.An
open Go.Proofs.YtpejloegidailaaDoor.X
set_option linter.unusedVariables false
set_option linter.unusedSimpArgs false
abbrev Ev := S44
abbrev Rw := S40
abbrev Bt := S48

/-! ### the model -/
def isEv (e : Ev) : Bool := if e.f1 then eqB38 e.f3 z38 else eqB36 e.f2 z36
def undr (l : List Rw) (t : Int) : Option Nat := l.findIdx? (fun r => r.f0 == t && !r.f5)
def newRow (e : Ev) (i : Nat) : Rw := ⟨e.f0, e.f2, z38, (i : Int), 0, false⟩
def endRow (r : Rw) (e : Ev) (i : Nat) : Rw := ⟨r.f0, r.f1, e.f3, r.f3, (i : Int), true⟩
def rstep (st : List Rw) (i : Nat) (e : Ev) : Except Nat (List Rw) :=
  if isEv e then
    match undr st e.f0 with
    | some k => if e.f1 then .error 5 else .ok (st.set k (endRow (st.getD k z40) e i))
    | none => if e.f1 then .ok (st ++ [newRow e i]) else .error 5
  else .error 1
def rfold : List Ev → Nat → List Rw → Except Nat (List Rw)
  | [], _, st => .ok st
  | e :: es, i, st => match rstep st i e with
    | .error c => .error c
    | .ok st' => rfold es (i + 1) st'
def rowsM (es : List Ev) : Except Nat (List Rw) := rfold es 0 []
theorem rfold_append : ∀ (a b : List Ev) (i : Nat) (st : List Rw), rfold (a ++ b) i st = match rfold a i st with
    | .error c => .error c
    | .ok st' => rfold b (i + a.length) st'
  | [], b, i, st => by simp [rfold]
  | e :: a, b, i, st => by
    simp only [List.cons_append, rfold]
    cases h : rstep st i e with
    | error c => rfl
    | ok st' =>
      simp only
      rw [rfold_append a b (i + 1) st']
      simp only [List.length_cons]
      rw [show i + 1 + a.length = i + (a.length + 1) by omega]
theorem rowsM_snoc (es : List Ev) (e : Ev) {st : List Rw} (h : rowsM es = .ok st) : rowsM (es ++ [e]) = rstep st es.length e := by
  unfold rowsM at h ⊢
  rw [rfold_append, h]
  simp only [rfold, Nat.zero_add]
  cases rstep st es.length e <;> rfl
theorem rowsM_err (a b : List Ev) {c : Nat} (h : rowsM a = .error c) : rowsM (a ++ b) = .error c := by
  unfold rowsM at h ⊢
  rw [rfold_append, h]
theorem rowsM_front (a b : List Ev) {st : List Rw} (h : rowsM (a ++ b) = .ok st) : ∃ st', rowsM a = .ok st' := by
  cases h' : rowsM a with
  | ok st' => exact ⟨st', rfl⟩
  | error c => rw [rowsM_err a b h'] at h; cases h
theorem rowsM_ind {p : List Ev → List Rw → Prop} (h0 : p [] []) (hs : ∀ es e st st', rowsM es = .ok st → p es st → rstep st es.length e = .ok st' → p (es ++ [e]) st') :
    ∀ (n : Nat) (es : List Ev) (st : List Rw), es.length = n → rowsM es = .ok st → p es st
  | 0, es, st, hn, h => by
    obtain rfl : es = [] := List.length_eq_zero_iff.1 hn
    obtain rfl : [] = st := by simpa [rowsM, rfold] using h
    exact h0
  | n + 1, es, st, hn, h => by
    obtain ⟨es', e, rfl⟩ : ∃ es' e, es = es' ++ [e] := ⟨es.dropLast, es.getLast (by intro hh; subst hh; simp at hn), (List.dropLast_concat_getLast _).symm⟩
    obtain ⟨st0, h1⟩ := rowsM_front _ _ h
    rw [rowsM_snoc _ _ h1] at h
    exact hs es' e st0 st h1 (rowsM_ind h0 hs n es' st0 (by simpa using hn) h1) h
/-- The two ways of a step. -/
theorem rstep_ok {st st' : List Rw} {i : Nat} {e : Ev} (h : rstep st i e = .ok st') :
    (e.f1 = true ∧ e.f3 = z38 ∧ undr st e.f0 = none ∧ st' = st ++ [newRow e i]) ∨ (e.f1 = false ∧ e.f2 = z36 ∧ ∃ k r, undr st e.f0 = some k ∧ st[k]? = some r ∧ r.f0 = e.f0 ∧ r.f5 = false ∧ st' = st.set k (endRow r e i)) := by
  unfold rstep at h
  split at h
  · rename_i hi
    unfold isEv at hi
    split at h
    · rename_i k hk
      split at h
      · cases h
      · rename_i h1
        have h1' : e.f1 = false := by simpa using h1
        rw [h1'] at hi
        obtain ⟨hl, hp, _⟩ := List.findIdx?_eq_some_iff_getElem.1 hk
        have hp2 : st[k].f0 = e.f0 ∧ st[k].f5 = false := by simpa using hp
        refine .inr ⟨h1', (eqB36_iff _ _).1 (by simpa using hi), k, st[k], hk, List.getElem?_eq_getElem hl, hp2.1, hp2.2, ?_⟩
        cases h
        simp [List.getD, List.getElem?_eq_getElem hl]
    · rename_i hk
      split at h
      · rename_i h1
        rw [h1] at hi
        refine .inl ⟨h1, (eqB38_iff _ _).1 (by simpa using hi), hk, ?_⟩
        cases h
        rfl
      · cases h
  · cases h
theorem undr_none {st : List Rw} {t : Int} (h : undr st t = none) {i : Nat} {r : Rw} (hr : st[i]? = some r) (ht : r.f0 = t) : r.f5 = true := by
  have := List.findIdx?_eq_none_iff.1 h r (List.mem_of_getElem? hr)
  simpa [ht] using this

/-- What a history's rows are. -/
structure HInv (es : List Ev) (st : List Rw) : Prop where
  from0 : ∀ (i : Nat) (r : Rw), st[i]? = some r → 0 ≤ r.f3 ∧ r.f3 < es.length
  done : ∀ (i : Nat) (r : Rw), st[i]? = some r → r.f5 = true → r.f3 < r.f4 ∧ r.f4 < es.length
  open_ : ∀ (i : Nat) (r : Rw), st[i]? = some r → r.f5 = false → r.f4 = 0 ∧ r.f2 = z38
  order : ∀ (i j : Nat) (r s : Rw), i < j → st[i]? = some r → st[j]? = some s → r.f0 = s.f0 → r.f5 = true ∧ r.f4 < s.f3
  rise : ∀ (i j : Nat) (r s : Rw), i < j → st[i]? = some r → st[j]? = some s → r.f3 < s.f3
  evF : ∀ (i : Nat) (r : Rw), st[i]? = some r → es[r.f3.toNat]? = some ⟨r.f0, true, r.f1, z38⟩
  evT : ∀ (i : Nat) (r : Rw), st[i]? = some r → r.f5 = true → es[r.f4.toNat]? = some ⟨r.f0, false, z36, r.f2⟩
  cover : ∀ p, p < es.length → ∃ (i : Nat) (r : Rw), st[i]? = some r ∧ (r.f3 = (p : Int) ∨ r.f5 = true ∧ r.f4 = (p : Int))
  count : st.length + (st.filter (fun r : Rw => r.f5)).length = es.length
theorem get_snoc {α : Type} {l : List α} {x y : α} {i : Nat} (h : (l ++ [x])[i]? = some y) : l[i]? = some y ∨ i = l.length ∧ y = x := by
  rcases Nat.lt_or_ge i l.length with hi | hi
  · rw [List.getElem?_append_left hi] at h
    exact .inl h
  · have h1 := (List.getElem?_eq_some_iff.1 h).1
    simp only [List.length_append, List.length_singleton] at h1
    obtain rfl : i = l.length := by omega
    simp at h
    exact .inr ⟨rfl, h.symm⟩
theorem get_set {α : Type} {l : List α} {x y : α} {k i : Nat} (h : (l.set k x)[i]? = some y) : (i ≠ k ∧ l[i]? = some y) ∨ i = k ∧ y = x := by
  rw [List.getElem?_set] at h
  split at h
  · rename_i hk
    split at h
    · exact .inr ⟨hk.symm, (Option.some.inj h).symm⟩
    · cases h
  · rename_i hk
    exact .inl ⟨fun e => hk e.symm, h⟩
theorem lt_of_get {α : Type} {l : List α} {y : α} {i : Nat} (h : l[i]? = some y) : i < l.length := (List.getElem?_eq_some_iff.1 h).1
theorem get_front {α : Type} {l m : List α} {y : α} {i : Nat} (h : l[i]? = some y) : (l ++ m)[i]? = some y := by rw [List.getElem?_append_left (lt_of_get h)]; exact h
theorem filter_set_len (p : Rw → Bool) : ∀ (l : List Rw) (k : Nat) (r x : Rw), l[k]? = some r → p r = false → p x = true → ((l.set k x).filter p).length = (l.filter p).length + 1
  | [], k, r, x, h, _, _ => by simp at h
  | y :: l, 0, r, x, h, h1, h2 => by
    obtain rfl : y = r := by simpa using h
    simp [List.filter_cons, h1, h2]
  | y :: l, k + 1, r, x, h, h1, h2 => by
    have ih := filter_set_len p l k r x (by simpa using h) h1 h2
    simp only [List.set_cons_succ, List.filter_cons]
    split <;> simp [ih]
theorem HInv.step {es : List Ev} {e : Ev} {st st' : List Rw} (I : HInv es st) (h : rstep st es.length e = .ok st') : HInv (es ++ [e]) st' := by
  have hlen : (es ++ [e]).length = es.length + 1 := by simp
  have hlast : (es ++ [e])[es.length]? = some e := by simp
  rcases rstep_ok h with ⟨h1, h3, hu, rfl⟩ | ⟨h1, h2, k, r0, hu, hk, ht, hd, rfl⟩
  · have he : e = ⟨e.f0, true, e.f2, z38⟩ := by obtain ⟨a, b, c, d⟩ := e; simp_all
    constructor
    · intro i r hr
      rcases get_snoc hr with hr | ⟨rfl, rfl⟩
      · have := I.from0 i r hr; omega
      · simp [newRow]; omega
    · intro i r hr h5
      rcases get_snoc hr with hr | ⟨rfl, rfl⟩
      · have := I.done i r hr h5; omega
      · simp [newRow] at h5
    · intro i r hr h5
      rcases get_snoc hr with hr | ⟨rfl, rfl⟩
      · exact I.open_ i r hr h5
      · exact ⟨rfl, rfl⟩
    · intro i j r s hij hr hs hrs
      rcases get_snoc hs with hs | ⟨rfl, rfl⟩
      · rcases get_snoc hr with hr | ⟨rfl, rfl⟩
        · exact I.order i j r s hij hr hs hrs
        · have := lt_of_get hs; omega
      · rcases get_snoc hr with hr | ⟨rfl, rfl⟩
        · have h5 := undr_none hu hr hrs
          refine ⟨h5, ?_⟩
          have := I.done i r hr h5
          simp [newRow]; omega
        · omega
    · intro i j r s hij hr hs
      rcases get_snoc hs with hs | ⟨rfl, rfl⟩
      · rcases get_snoc hr with hr | ⟨rfl, rfl⟩
        · exact I.rise i j r s hij hr hs
        · have := lt_of_get hs; omega
      · rcases get_snoc hr with hr | ⟨rfl, rfl⟩
        · have := I.from0 i r hr
          simp [newRow]; omega
        · omega
    · intro i r hr
      rcases get_snoc hr with hr | ⟨rfl, rfl⟩
      · exact get_front (I.evF i r hr)
      · simp only [newRow, Int.toNat_natCast]
        rw [hlast, he]
    · intro i r hr h5
      rcases get_snoc hr with hr | ⟨rfl, rfl⟩
      · exact get_front (I.evT i r hr h5)
      · simp [newRow] at h5
    · intro p hp
      rcases Nat.lt_or_ge p es.length with hp' | hp'
      · obtain ⟨i, r, hr, hh⟩ := I.cover p hp'
        exact ⟨i, r, get_front hr, hh⟩
      · obtain rfl : p = es.length := by omega
        exact ⟨st.length, newRow e es.length, by simp, .inl rfl⟩
    · have := I.count
      simp [List.filter_append, newRow]; omega
  · have he : e = ⟨e.f0, false, z36, e.f3⟩ := by obtain ⟨a, b, c, d⟩ := e; simp_all
    have hop := I.open_ k r0 hk hd
    constructor
    · intro i r hr
      rcases get_set hr with ⟨_, hr⟩ | ⟨rfl, rfl⟩
      · have := I.from0 i r hr; omega
      · have := I.from0 i r0 hk
        simp only [endRow]; omega
    · intro i r hr h5
      rcases get_set hr with ⟨_, hr⟩ | ⟨rfl, rfl⟩
      · have := I.done i r hr h5; omega
      · have := I.from0 i r0 hk
        simp only [endRow]; omega
    · intro i r hr h5
      rcases get_set hr with ⟨_, hr⟩ | ⟨rfl, rfl⟩
      · exact I.open_ i r hr h5
      · simp [endRow] at h5
    · intro i j r s hij hr hs hrs
      rcases get_set hs with ⟨hjk, hs2⟩ | ⟨rfl, rfl⟩
      · rcases get_set hr with ⟨hik, hr⟩ | ⟨rfl, rfl⟩
        · exact I.order i j r s hij hr hs2 hrs
        · exfalso
          have := (I.order i j r0 s hij hk hs2 (by simpa [endRow] using hrs)).1
          rw [hd] at this; cases this
      · rcases get_set hr with ⟨hik, hr⟩ | ⟨rfl, rfl⟩
        · exact I.order i j r r0 hij hr hk (by simpa [endRow] using hrs)
        · omega
    · intro i j r s hij hr hs
      rcases get_set hs with ⟨hjk, hs2⟩ | ⟨rfl, rfl⟩
      · rcases get_set hr with ⟨hik, hr⟩ | ⟨rfl, rfl⟩
        · exact I.rise i j r s hij hr hs2
        · exact I.rise i j r0 s hij hk hs2
      · rcases get_set hr with ⟨hik, hr⟩ | ⟨rfl, rfl⟩
        · exact I.rise i j r r0 hij hr hk
        · omega
    · intro i r hr
      rcases get_set hr with ⟨_, hr⟩ | ⟨rfl, rfl⟩
      · exact get_front (I.evF i r hr)
      · exact get_front (I.evF i r0 hk)
    · intro i r hr h5
      rcases get_set hr with ⟨_, hr⟩ | ⟨rfl, rfl⟩
      · exact get_front (I.evT i r hr h5)
      · simp only [endRow, Int.toNat_natCast]
        rw [hlast, he, ht]
    · intro p hp
      rcases Nat.lt_or_ge p es.length with hp' | hp'
      · obtain ⟨i, r, hr, hh⟩ := I.cover p hp'
        by_cases hik : i = k
        · subst hik
          obtain rfl := Option.some.inj (hr.symm.trans hk)
          refine ⟨i, endRow r e es.length, ?_, ?_⟩
          · simp [lt_of_get hk]
          · rcases hh with hh | ⟨hh, _⟩
            · exact .inl hh
            · rw [hd] at hh; cases hh
        · exact ⟨i, r, by rw [List.getElem?_set, if_neg (fun e => hik e.symm)]; exact hr, hh⟩
      · obtain rfl : p = es.length := by omega
        exact ⟨k, endRow r0 e es.length, by simp [lt_of_get hk], .inr ⟨rfl, rfl⟩⟩
    · have := I.count
      rw [filter_set_len (fun r : Rw => r.f5) st k r0 (endRow r0 e es.length) hk hd rfl, List.length_set, hlen]
      omega
theorem inv_of {es : List Ev} {st : List Rw} (h : rowsM es = .ok st) : HInv es st :=
  rowsM_ind (p := HInv) ⟨by simp, by simp, by simp, by simp, by simp, by simp, by simp, by simp, by simp⟩ (fun _ _ _ _ _ I hs => I.step hs) _ es st rfl h

/-! ### ahead -/
def aheadB (a b : Rw) : Bool := a.f5 && decide (a.f4 < b.f3)
theorem ahead_no (es : List Ev) (st : List Rw) (I : HInv es st) (i j : Nat) (r s : Rw) (hr : st[i]? = some r) (hs : st[j]? = some s) : (aheadB r s && aheadB s r) = false := by
  rw [Bool.eq_false_iff]
  intro h
  simp only [aheadB, Bool.and_eq_true, decide_eq_true_eq] at h
  have h1 := I.done i r hr h.1.1
  have h2 := I.done j s hs h.2.1
  omega
theorem ahead_one (es : List Ev) (st : List Rw) (I : HInv es st) (i j : Nat) (r s : Rw) (hij : i < j) (hr : st[i]? = some r) (hs : st[j]? = some s) (h : r.f0 = s.f0) : aheadB r s = true := by
  have := I.order i j r s hij hr hs h
  simp [aheadB, this]
theorem ahead_trans (es : List Ev) (st : List Rw) (I : HInv es st) (j : Nat) (r s t : Rw) (hs : st[j]? = some s) (h1 : aheadB r s = true) (h2 : aheadB s t = true) : aheadB r t = true := by
  simp only [aheadB, Bool.and_eq_true, decide_eq_true_eq] at h1 h2 ⊢
  have := I.done j s hs h2.1
  exact ⟨h1.1, by omega⟩

/-! ### the events of rows -/
def fromEv (r : Rw) : Ev := ⟨r.f0, true, r.f1, z38⟩
def toEv (r : Rw) : Ev := ⟨r.f0, false, z36, r.f2⟩
def badB (n : Nat) (r : Rw) : Bool := decide (r.f3 < 0) || (decide ((n : Int) ≤ r.f3) || (r.f5 && (decide (r.f4 < 0) || decide ((n : Int) ≤ r.f4))))
def ofStep (out : List Ev) (r : Rw) : List Ev := if r.f5 then (out.set r.f3.toNat (fromEv r)).set r.f4.toNat (toEv r) else out.set r.f3.toNat (fromEv r)
def ofFold (out : List Ev) (l : List Rw) : List Ev := l.foldl ofStep out
def cntM (l : List Rw) : Nat := l.length + (l.filter (fun r : Rw => r.f5)).length
def ofOut (l : List Rw) : List Ev := ofFold (List.replicate (cntM l) z44) l
def ofM (l : List Rw) : Option (List Ev) :=
  if l.any (badB (cntM l)) then none else
    match rowsM (ofOut l) with
    | .ok back => if back = l then some (ofOut l) else none
    | .error _ => none
theorem ofStep_length (out : List Ev) (r : Rw) : (ofStep out r).length = out.length := by unfold ofStep; split <;> simp
theorem ofFold_length : ∀ (l : List Rw) (out : List Ev), (ofFold out l).length = out.length
  | [], _ => rfl
  | r :: l, out => by
    show (ofFold (ofStep out r) l).length = _
    rw [ofFold_length l, ofStep_length]
theorem ofFold_snoc (out : List Ev) (l : List Rw) (r : Rw) : ofFold out (l ++ [r]) = ofStep (ofFold out l) r := by simp [ofFold, List.foldl_append]
theorem ofM_some {l : List Rw} {out : List Ev} (h : ofM l = some out) : rowsM out = .ok l := by
  unfold ofM at h
  split at h
  · cases h
  · split at h
    · rename_i back hb
      split at h
      · rename_i he
        cases h
        rw [hb, he]
      · cases h
    · cases h
/-- Where the rows' places are those of a list, what is written is that list. -/
theorem of_back {es : List Ev} {st : List Rw} (h : rowsM es = .ok st) : ofM st = some es := by
  have I := inv_of h
  have hc : cntM st = es.length := I.count
  have hany : st.any (badB (cntM st)) = false := by
    rw [List.any_eq_false]
    intro r hr
    obtain ⟨i, hi, rfl⟩ := List.getElem_of_mem hr
    have h1 := I.from0 i _ (List.getElem?_eq_getElem hi)
    have h2 := I.done i _ (List.getElem?_eq_getElem hi)
    rw [hc]
    simp only [badB, Bool.or_eq_true, decide_eq_true_eq, Bool.and_eq_true]
    rintro (h | h | ⟨h, h'⟩)
    · omega
    · omega
    · have := h2 h; omega
  have key : ∀ (k : Nat), k ≤ st.length → (ofFold (List.replicate es.length z44) (st.take k)).length = es.length ∧ ∀ p, p < es.length → (∃ (i : Nat) (r : Rw), i < k ∧ st[i]? = some r ∧ (r.f3 = (p : Int) ∨ r.f5 = true ∧ r.f4 = (p : Int))) → (ofFold (List.replicate es.length z44) (st.take k))[p]? = es[p]? := by
    intro k
    induction k with
    | zero => exact fun _ => ⟨by simp [ofFold], fun p _ ⟨i, r, hi, _⟩ => by omega⟩
    | succ k ih =>
      intro hk
      obtain ⟨hl, ih⟩ := ih (by omega)
      obtain ⟨r, hr⟩ : ∃ r, st[k]? = some r := ⟨st[k], List.getElem?_eq_getElem (by omega)⟩
      have ht : st.take (k + 1) = st.take k ++ [r] := by
        rw [List.take_succ_eq_append_getElem (by omega)]
        rw [List.getElem?_eq_getElem (by omega)] at hr
        rw [Option.some.inj hr]
      rw [ht, ofFold_snoc]
      refine ⟨by rw [ofStep_length, hl], fun p hp hc => ?_⟩
      have hF := I.evF k r hr
      have hT := I.evT k r hr
      have h0 := I.from0 k r hr
      have h1 := I.done k r hr
      have keep : ∀ out : List Ev, out.length = es.length → (out[p]? = es[p]? ∨ r.f3 = (p : Int) ∨ r.f5 = true ∧ r.f4 = (p : Int)) → (ofStep out r)[p]? = es[p]? := by
        intro out ho hh
        unfold ofStep
        cases h5 : r.f5
        · simp only [Bool.false_eq_true, if_false]
          rw [List.getElem?_set]
          split
          · rename_i hpe
            rw [if_pos (by omega), ← hpe, hF]
            rfl
          · rename_i hpe
            rcases hh with hh | hh | ⟨hh, _⟩
            · exact hh
            · omega
            · rw [h5] at hh; cases hh
        · simp only [if_true]
          have h1 := h1 h5
          have hT := hT h5
          rw [List.getElem?_set]
          split
          · rename_i hpe
            rw [if_pos (by simp; omega), ← hpe, hT]
            rfl
          · rename_i hpe
            rw [List.getElem?_set]
            split
            · rename_i hpe
              rw [if_pos (by omega), ← hpe, hF]
              rfl
            · rename_i hpe2
              rcases hh with hh | hh | ⟨_, hh⟩
              · exact hh
              · omega
              · omega
      refine keep _ hl ?_
      obtain ⟨i, s, hi, hs, hh⟩ := hc
      rcases Nat.lt_or_ge i k with hik | hik
      · exact .inl (ih p hp ⟨i, s, hik, hs, hh⟩)
      · obtain rfl : i = k := by omega
        obtain rfl := Option.some.inj (hr.symm.trans hs)
        exact .inr hh
  have hout : ofOut st = es := by
    obtain ⟨hl, hk⟩ := key st.length (Nat.le_refl _)
    rw [List.take_length] at hl hk
    unfold ofOut
    rw [hc]
    refine List.ext_getElem? (fun p => ?_)
    rcases Nat.lt_or_ge p es.length with hp | hp
    · obtain ⟨i, r, hr, hh⟩ := I.cover p hp
      exact hk p hp ⟨i, r, lt_of_get hr, hr, hh⟩
    · rw [List.getElem?_eq_none (by omega), List.getElem?_eq_none (by omega)]
  unfold ofM
  rw [hany, hout, h]
  simp
end Go.Proofs.YtpejloegidailaaDoor.An
