/- The contracts once more, over values that are slices; freed; what the laws say of plain lists. -/
import Derived.Test.YtcnhjbpgjemnhaaSvC
import Derived.Test.YtcnhjbpgjemnhaaX3
namespace Go.Proofs.Ytcnhjbpgjemnhaa.Sv
open Go.RowKit Go.Proofs.YtcnhjbpgjemnhaaW.PrintWords Go.Proofs.YtcnhjbpgjemnhaaW.PrintLast Go.Proofs.YtcnhjbpgjemnhaaW.PrintMore Go.Proofs.Ytcnhjbpgjemnhaa.X
set_option linter.unusedVariables false
set_option linter.unusedSimpArgs false

/-- What a way answers: those that may be freed, those that stay. -/
def Two (w : World) (l : List S39) (p : S39 → Bool) (e : Ending) (w' : World) : Prop := ∃ v1 v2 : Value, e = .returned (.tuple #[v1, v2]) ∧ Sl k39 w' v1 (l.filter fun x => !p x) ∧ Sl k39 w' v2 (l.filter p) ∧ Below w.heap.size w w'
theorem Slots_s {w : World} {v u : Value} {l : List S39} {kept : List S37} (h : Sl k39 w v l) (hlim : l.length ≤ 1000000) (hk : Sc k37 w u kept) : Calls Try.prog 11 #[v, u] w (Two w l (slB kept)) := by
  obtain ⟨A, c, rfl, hc, h⟩ := h
  obtain ⟨B, d, rfl, hk⟩ := hk
  refine (Slots B d kept A c l w h hc hlim hk).mono ?_
  rintro e w1 ⟨v1, v2, rfl, h1, h2, hb⟩
  exact ⟨_, _, rfl, Sl_R h1, Sl_R h2, hb⟩
theorem Eras_s {w : World} {v u : Value} {l : List S39} {kept : List Int} (h : Sl k39 w v l) (hlim : l.length ≤ 1000000) (hk : Sc (Kd.int .i64) w u kept) : Calls Try.prog 12 #[v, u] w (Two w l (erB kept)) := by
  obtain ⟨A, c, rfl, hc, h⟩ := h
  obtain ⟨B, d, rfl, hk⟩ := hk
  refine (Eras B d kept A c l w h hc hlim hk).mono ?_
  rintro e w1 ⟨v1, v2, rfl, h1, h2, hb⟩
  exact ⟨_, _, rfl, Sl_R h1, Sl_R h2, hb⟩
theorem Spans_s {w : World} {v u : Value} {l : List S39} {kept : List S41} (h : Sl k39 w v l) (hlim : l.length ≤ 1000000) (hk : Sc k41 w u kept) : Calls Try.prog 13 #[v, u] w (Two w l (spB kept)) := by
  obtain ⟨A, c, rfl, hc, h⟩ := h
  obtain ⟨B, d, rfl, hk⟩ := hk
  refine (Spans B d kept A c l w h hc hlim hk).mono ?_
  rintro e w1 ⟨v1, v2, rfl, h1, h2, hb⟩
  exact ⟨_, _, rfl, Sl_R h1, Sl_R h2, hb⟩
theorem Epochs_s {w : World} {v : Value} {l : List S39} {now : Int} (h : Sl k39 w v l) (hlim : l.length ≤ 1000000) (hn : -9223372036854775808 ≤ now ∧ now ≤ 9223372036854775807) : Calls Try.prog 10 #[v, .int .i64 now] w (Two w l (epB now)) := by
  obtain ⟨A, c, rfl, hc, h⟩ := h
  refine (Epochs now A c l w h hc hlim hn).mono ?_
  rintro e w1 ⟨v1, v2, rfl, h1, h2, hb⟩
  exact ⟨_, _, rfl, Sl_R h1, Sl_R h2, hb⟩
theorem same_s {w : World} {u v : Value} {a b : List S39} (h : Sl k39 w u a) (h' : Sl k39 w v b) : Calls Try.prog 16 #[u, v] w fun e w' => e = .returned (.bool (decide (a = b))) ∧ Below w.heap.size w w' := by
  obtain ⟨A, c, rfl, hc, h⟩ := h
  obtain ⟨B, d, rfl, hd, h'⟩ := h'
  exact same_c A c a B d b w h h'
theorem in_s {w : World} {u v : Value} {a b : List S39} (h : Sl k39 w u a) (h' : Sl k39 w v b) : Calls Try.prog 15 #[u, v] w fun e w' => e = .returned (.bool (inB a b)) ∧ Below w.heap.size w w' := by
  obtain ⟨A, c, rfl, hc, h⟩ := h
  obtain ⟨B, d, rfl, hd, h'⟩ := h'
  exact in_c A c a B d b w h h' hc hd

/-! ### plain laws -/
theorem filter_le (l : List S39) (p q r : S39 → Bool) (h : ∀ x, p x = true → q x = true) : ((l.filter p).filter r).length ≤ ((l.filter q).filter r).length := by
  induction l with
  | nil => simp
  | cons a l ih =>
    simp only [List.filter_cons]
    have := h a
    cases hp : p a <;> cases hq : q a <;> cases hr : r a <;> simp_all <;> omega
theorem in_filter (l : List S39) (p q : S39 → Bool) (h : ∀ x, p x = true → q x = true) : inB (l.filter p) (l.filter q) = true := by
  unfold inB
  rw [List.all_eq_true]
  intro x _
  have := filter_le l p q (fun y => eqB39 y x) h
  rw [Bool.not_eq_true', decide_eq_false_iff_not]
  unfold cnt
  omega
theorem more_slots (l : List S39) (k m : List S37) : inB (l.filter fun x => !slB (k ++ m) x) (l.filter fun x => !slB k x) = true := in_filter _ _ _ (fun x h => by simp [slB, List.any_append] at h ⊢; exact h.1)
theorem more_eras (l : List S39) (k m : List Int) : inB (l.filter fun x => !erB (k ++ m) x) (l.filter fun x => !erB k x) = true := in_filter _ _ _ (fun x h => by
  unfold erB at h ⊢
  rw [List.any_append] at h
  cases hh : (k.any fun e => decide (e > 0) && (decide (x.f1 ≤ e) && decide (e ≤ x.f2)))
  · rfl
  · rw [hh] at h; simp at h)
theorem more_spans (l : List S39) (k m : List S41) : inB (l.filter fun x => !spB (k ++ m) x) (l.filter fun x => !spB k x) = true := in_filter _ _ _ (fun x h => by
  unfold spB at h ⊢
  rw [List.any_append] at h
  cases hh : (k.any fun s => s.f0 && (decide (s.f1 ≤ x.f2) && decide (x.f1 ≤ s.f2)))
  · rfl
  · rw [hh] at h; simp at h)
theorem more_epochs (l : List S39) (a b : Int) (h : 0 ≤ a) (hab : a ≤ b) : inB (l.filter fun x => !epB a x) (l.filter fun x => !epB b x) = true := in_filter _ _ _ (fun x hx => by
  simp [epB] at hx ⊢
  omega)
theorem none_slots (l : List S39) : (l.filter fun x => !slB [] x) = l := by simp [slB]
theorem none_eras (l : List S39) : (l.filter fun x => !erB [0, -1] x) = l := by simp [erB]
theorem none_spans (l : List S39) (n : Int) : (l.filter fun x => !spB [⟨false, 0, n⟩] x) = l := by simp [spB]
theorem guard_slots (n : S39) (k : List S37) (a b c : Int) (d : Bool) : ([n].filter fun x => !slB (k ++ [⟨n.f0.f0, a, b, c, d⟩]) x) = [] := by simp [slB, List.any_append]
theorem guard_eras (n : S39) (k : List Int) (e : Int) (h : 0 < e) (h1 : n.f1 ≤ e) (h2 : e ≤ n.f2) : ([n].filter fun x => !erB (k ++ [e]) x) = [] := by simp [erB, List.any_append]; intros; omega
theorem guard_spans (n : S39) (k : List S41) (s : S41) (h : s.f0 = true) (h1 : s.f1 ≤ n.f2) (h2 : n.f1 ≤ s.f2) : ([n].filter fun x => !spB (k ++ [s]) x) = [] := by simp [spB, List.any_append]; intros; simp_all
end Go.Proofs.Ytcnhjbpgjemnhaa.Sv
