/- Reading what came in: a law's argument that reads as a datum holds a plain thing of its kind. And small plain lemmas. -/
import Derived.Test.YtpejloegidailaaDoorWWords
import Derived.ProofKit
import Derived.Deep.Slices
import Derived.OpenShut
import Derived.SizedLaws
namespace Go.Proofs.YtpejloegidailaaDoor.X
open Go.RowKit Go.Proofs.YtpejloegidailaaDoorW.PrintWords
set_option linter.unusedVariables false
set_option linter.unusedSimpArgs false

/-! ### plain lists -/
theorem any_snoc {α : Type} (l : List α) (p : α → Bool) (d : α) (k : Nat) (h : k < l.length) : (l.take (k + 1)).any p = ((l.take k).any p || p (l.getD k d)) := by
  rw [List.take_succ_eq_append_getElem h, List.any_append]
  simp [List.getD, h]
theorem any_at {α : Type} (l : List α) (p : α → Bool) (d : α) (k : Nat) (h : k < l.length) (hp : p (l.getD k d) = true) : l.any p = true := by
  rw [List.any_eq_true]
  refine ⟨l[k], List.getElem_mem h, ?_⟩
  simpa [List.getD, h] using hp
theorem filter_snoc {α : Type} (l : List α) (p : α → Bool) (d : α) (k : Nat) (h : k < l.length) : (l.take (k + 1)).filter p = (l.take k).filter p ++ (if p (l.getD k d) then [l.getD k d] else []) := by
  rw [List.take_succ_eq_append_getElem h, List.filter_append]
  simp only [List.getD, List.getElem?_eq_getElem h, Option.getD_some]
  congr 1
  by_cases hp : p l[k] <;> simp [List.filter_cons, hp]
theorem take_snoc {α : Type} (l : List α) (d : α) (k : Nat) (h : k < l.length) : l.take (k + 1) = l.take k ++ [l.getD k d] := by
  rw [List.take_succ_eq_append_getElem h]
  simp [List.getD, h]

/-! ### the world -/
theorem blk_below {w w1 : World} {g : Nat} {o : Obj} (hb : Below w.heap.size w w1) (h : w.heap[g]? = some o) : w1.heap[g]? = some o := (hb.block g (blk_lt h)).trans h
theorem ret_int {k : IntKind} {a b : Int} (h : a = b) : Ending.returned (.int k a) = .returned (.int k b) := by rw [h]
theorem ret_bool {a b : Bool} (h : a = b) : Ending.returned (.bool a) = .returned (.bool b) := by rw [h]

theorem C_of_block {α : Type} {d : Kd α} {w : World} {g e : Nat} {fr : Nat × Nat} {cells : Array Value} {xs : List α} (hh : w.heap[g]? = some (.cells cells e fr)) (hR : Reps (d.K w) d.sz xs cells.toList) (hm : xs.length ≤ 9223372036854775807) :
    d.C w (some ⟨g, 0, none⟩) xs.length xs := by
  refine ⟨rfl, hm, fun _ => ⟨⟨g, 0, none⟩, rfl, fun j p hj => ?_⟩⟩
  have hl := (List.getElem?_eq_some_iff.1 hj).1
  have hle : j * d.sz + d.sz ≤ cells.toList.length := by
    rw [hR.1, ← Nat.succ_mul]
    exact Nat.mul_le_mul_right _ hl
  refine ⟨(cells.toList.drop (j * d.sz)).take d.sz, by rw [List.length_take, List.length_drop]; omega, hR.2 j p hj, fun i u hu => ?_⟩
  have hi : i < d.sz := by
    have := (List.getElem?_eq_some_iff.1 hu).1
    rw [List.length_take] at this
    omega
  rw [add_plain, cell_of_row w g (j * d.sz + i) cells e fr hh]
  rw [List.getElem?_take_of_lt hi, List.getElem?_drop] at hu
  simpa using hu
theorem Reps.cons {α : Type} {R : α → List Value → Prop} {size : Nat} {p : α} {ps : List α} {c cs : List Value} (hp : R p c) (hc : c.length = size) (h : Reps R size ps cs) : Reps R size (p :: ps) (c ++ cs) := by
  refine ⟨by rw [List.length_append, h.1, hc, List.length_cons, Nat.succ_mul, Nat.add_comm], fun j q hq => ?_⟩
  cases j with
  | zero =>
    obtain rfl : p = q := by simpa using hq
    rw [Nat.zero_mul, List.drop_zero, ← hc, List.take_left]
    exact hp
  | succ j =>
    have hq' : ps[j]? = some q := by simpa using hq
    have e1 : (j + 1) * size = c.length + j * size := by rw [Nat.succ_mul, hc, Nat.add_comm]
    rw [e1, ← List.drop_drop, List.drop_left]
    exact h.2 j q hq'

/-! ### reading -/
/-- What reads at type t is of kind d. -/
def Rd {α : Type} (P : Program) (d : Kd α) (t : TypeId) (wf : α → Prop) : Prop :=
  ∀ (H : Type) (enc : TypeId × Value → H) (w : World) (base : Nat) (spare : Nat → Bool) (held : Bool) (fuel : Nat) (cs : List Value) (x : DataW H × List MemPlace),
    DataW.trod enc P w base spare held fuel t cs = some x → ∃ y, d.K w y cs ∧ wf y
def I64 (n : Int) : Prop := -9223372036854775808 ≤ n ∧ n ≤ 9223372036854775807
theorem I64.of_wf {n : Int} (h : (Lit.int .i64 n).wf = true) : I64 n := by
  unfold I64
  simpa [Lit.wf, IntKind.min, IntKind.max, IntKind.signed, IntKind.bits] using h
theorem I64.to_wf {n : Int} (h : I64 n) : (Lit.int .i64 n).wf = true := by
  simpa [Lit.wf, IntKind.min, IntKind.max, IntKind.signed, IntKind.bits, I64] using h
theorem Rd.int {P : Program} {t : TypeId} (ht : P.underlying t = some (.int .i64)) : Rd P (Kd.int .i64) t I64 := fun H enc w base spare held fuel cs x h => by
  obtain ⟨n, rfl, _, hw⟩ := DataW.trod_int ht h
  exact ⟨n, rfl, I64.of_wf hw⟩
theorem Rd.bool {P : Program} {t : TypeId} (ht : P.underlying t = some .bool) : Rd P Kd.bool t (fun _ => True) := fun H enc w base spare held fuel cs x h => by
  obtain ⟨b, rfl, _⟩ := DataW.trod_bool ht h
  exact ⟨b, rfl, trivial⟩
theorem Rd.string {P : Program} {t : TypeId} (ht : P.underlying t = some .string) : Rd P Kd.string t (fun s => s.size ≤ maxLen) := fun H enc w base spare held fuel cs x h => by
  obtain ⟨s, rfl, _, hs⟩ := DataW.trod_string ht h
  exact ⟨s, rfl, hs⟩
theorem Rd.mono {α : Type} {P : Program} {d : Kd α} {t : TypeId} {wf wf' : α → Prop} (h : Rd P d t wf) (hw : ∀ y, wf y → wf' y) : Rd P d t wf' := fun H enc w base spare held fuel cs x hx => by
  obtain ⟨y, hy, hy'⟩ := h H enc w base spare held fuel cs x hx
  exact ⟨y, hy, hw y hy'⟩
theorem exists_list {α : Type} (q : Nat → α → Prop) : ∀ n : Nat, (∀ i, i < n → ∃ y, q i y) → ∃ l : List α, l.length = n ∧ ∀ i y, l[i]? = some y → q i y
  | 0, _ => ⟨[], rfl, fun i y h => by simp at h⟩
  | n + 1, h => by
    obtain ⟨l, hl, hq⟩ := exists_list q n (fun i hi => h i (by omega))
    obtain ⟨y, hy⟩ := h n (by omega)
    refine ⟨l ++ [y], by simp [hl], fun i z hz => ?_⟩
    rcases Nat.lt_or_ge i l.length with hi | hi
    · rw [List.getElem?_append_left hi] at hz
      exact hq i z hz
    · have : i = l.length := by
        have := (List.getElem?_eq_some_iff.1 hz).1
        rw [List.length_append, List.length_singleton] at this
        omega
      subst this
      have hz' : y = z := by simpa using hz
      subst hz'
      rw [hl]
      exact hy
theorem add_add' (a : Addr) (i j : Nat) (h : a.spot = none) : (a.add i).add j = a.add (i + j) := by
  obtain ⟨b, o, s⟩ := a
  obtain rfl : s = none := h
  rw [add_plain' b o i, add_plain' b (o + i) j, add_plain' b o (i + j), Nat.add_assoc]
where
  add_plain' (b o j : Nat) : (⟨b, o, none⟩ : Addr).add j = ⟨b, o + j, none⟩ := by unfold Addr.add; split <;> simp_all
theorem Rd.slice {α : Type} {P : Program} {d : Kd α} {t e : TypeId} {wf : α → Prop} (ht : P.underlying t = some (.slice e)) (hc : P.cellsOf e = d.sz) (h : Rd P d e wf) :
    Rd P (Kd.slice e d) t (fun l => (∀ y ∈ l, wf y) ∧ l.length ≤ 9223372036854775807) := fun H enc w base spare held fuel cs x hx => by
  rcases Deep.open_slice ht hx with ⟨rfl, _⟩ | ⟨a, len, cap, m, n, D, Pl, rfl, hb, hl, hm, hmm, _, hel⟩
  · exact ⟨[], ⟨none, 0, rfl, Nat.le_refl _, Kd.C_nil _ _⟩, by simp, by simp⟩
  · unfold maxLen at hm
    have hlm : len ≤ m := by rw [hmm]; split <;> omega
    obtain ⟨l, hll, hlq⟩ := exists_list (fun i y => ∃ cs', w.cells? base (a.add (i * P.cellsOf e)) (P.cellsOf e) = some cs' ∧ d.K w y cs' ∧ wf y) len (fun i hi => by
      obtain ⟨cs', h1, h2⟩ := hel i (by omega)
      obtain ⟨y, hy, hw⟩ := h H enc w base spare held n cs' _ h2
      exact ⟨y, cs', h1, hy, hw⟩)
    subst hll
    refine ⟨l, ⟨some a, cap, rfl, hl, rfl, by omega, fun hp => ⟨a, rfl, fun j p hj => ?_⟩⟩, fun y hy => ?_, by omega⟩
    · obtain ⟨cs', h1, h2, _⟩ := hlq j p hj
      obtain ⟨_, hlen, hcell⟩ := World.cells?_some h1
      refine ⟨cs', d.K_len h2, h2, fun i u hu => ?_⟩
      have hi : i < P.cellsOf e := by
        have := (List.getElem?_eq_some_iff.1 hu).1
        omega
      have h3 := hcell i hi
      rw [hu, hc, add_add] at h3
      exact h3
    · obtain ⟨i, hi, rfl⟩ := List.getElem_of_mem hy
      obtain ⟨_, _, _, hw⟩ := hlq i _ (List.getElem?_eq_getElem hi)
      exact hw

/-- Fields from an offset on. -/
def RdF {α : Type} (P : Program) (d : Kd α) (fs : List Field) (off : Nat) (wf : α → Prop) : Prop :=
  ∀ (H : Type) (enc : TypeId × Value → H) (w : World) (base : Nat) (spare : Nat → Bool) (held : Bool) (n : Nat) (cs : List Value),
    (∀ f ∈ fs, ∃ x, DataW.trod enc P w base spare held n f.type ((cs.drop f.offset).take (P.cellsOf f.type)) = some x) → cs.length = off + d.sz → ∃ y, d.K w y (cs.drop off) ∧ wf y
theorem RdF.last {α : Type} {P : Program} {d : Kd α} {f : Field} {t : TypeId} {off : Nat} {wf : α → Prop} (h : Rd P d t wf) (hf : f.type = t) (ho : f.offset = off) (hc : P.cellsOf t = d.sz) : RdF P d [f] off wf := fun H enc w base spare held n cs hx hl => by
  obtain ⟨x, hx⟩ := hx f (List.mem_singleton.2 rfl)
  rw [hf, ho, hc, List.take_of_length_le (by rw [List.length_drop]; omega)] at hx
  exact h H enc w base spare held n _ x hx
theorem RdF.cons {α β : Type} {P : Program} {d : Kd α} {d' : Kd β} {f : Field} {fs : List Field} {t : TypeId} {off : Nat} {wf : α → Prop} {wf' : β → Prop} (h : Rd P d t wf) (hf : f.type = t) (ho : f.offset = off) (hc : P.cellsOf t = d.sz)
    (h' : RdF P d' fs (off + d.sz) wf') : RdF P (Kd.pair d d') (f :: fs) off (fun p => wf p.1 ∧ wf' p.2) := fun H enc w base spare held n cs hx hl => by
  have hs : (Kd.pair d d').sz = d.sz + d'.sz := rfl
  obtain ⟨x, hx0⟩ := hx f (List.mem_cons_self ..)
  rw [hf, ho, hc] at hx0
  obtain ⟨y, hy, hw⟩ := h H enc w base spare held n _ x hx0
  obtain ⟨z, hz, hw'⟩ := h' H enc w base spare held n cs (fun g hg => hx g (List.mem_cons_of_mem _ hg)) (by omega)
  refine ⟨(y, z), ⟨(cs.drop off).take d.sz, cs.drop (off + d.sz), ?_, hy, hz⟩, hw, hw'⟩
  rw [← List.drop_drop, List.take_append_drop]
theorem Rd.struct {α β : Type} {P : Program} {d : Kd α} {t : TypeId} {fs : Array Field} {wf : α → Prop} (pr : β → α) (inv : α → β) (hi : ∀ a, pr (inv a) = a) (ht : P.underlying t = some (.struct fs)) (hc : P.cellsOf t = d.sz) (h : RdF P d fs.toList 0 wf) :
    Rd P (Kd.iso d pr) t (fun y => wf (pr y)) := fun H enc w base spare held fuel cs x hx => by
  obtain ⟨xs, n, _, _, hl, hn, hf⟩ := DataW.trod_struct ht hx
  obtain ⟨y, hy, hw⟩ := h H enc w base spare held n cs (fun f hfm => by
    obtain ⟨i, hi, rfl⟩ := List.getElem_of_mem hfm
    have hi' : i < fs.size := by simpa using hi
    have h1 := hf i fs[i] (by simp [hi'])
    rw [List.getElem?_eq_getElem (by omega)] at h1
    exact ⟨_, by simpa using h1⟩) (by omega)
  exact ⟨inv y, show d.K w (pr (inv y)) cs by rw [hi]; simpa using hy, by show wf (pr (inv y)); rw [hi]; exact hw⟩
/-- A struct by value: its cells. -/
theorem Rd.agg {α H : Type} {P : Program} {d : Kd α} {t : TypeId} {wf : α → Prop} {fs : Array Field} (h : Rd P d t wf) (ht : P.underlying t = some (.struct fs)) {enc : TypeId × Value → H} {w : World} {base b0 : Nat} {spare : Nat → Bool} {held : Bool} {r : Reach} {v : Value} {x : DataW H} {p : List MemPlace}
    (hv : Value.okWide P w r b0 t v) (hx : DataW.Trod enc P w base spare held t v x p) : ∃ (cs : List Value) (y : α), v = .agg cs.toArray ∧ d.K w y cs ∧ wf y := by
  obtain ⟨cs, rfl, hsz⟩ := WideShapes.okWide_struct ht hv
  obtain ⟨fuel, hf⟩ := hx
  obtain ⟨y, hy, hw⟩ := h H enc w base spare held fuel _ _ hf
  exact ⟨cs.toList, y, by simp, by simpa [Value.cells] using hy, hw⟩
/-- A slice as an argument. -/
theorem Rd.row {α H : Type} {P : Program} {d : Kd α} {t e : TypeId} {wf : α → Prop} (ht : P.underlying t = some (.slice e)) (hc : P.cellsOf e = d.sz) (h : Rd P d e wf) {enc : TypeId × Value → H} {w : World} {base b0 : Nat} {spare : Nat → Bool} {held : Bool} {r : Reach} {v : Value} {x : DataW H} {p : List MemPlace}
    (hv : Value.okWide P w r b0 t v) (hx : DataW.Trod enc P w base spare held t v x p) : ∃ (A : Option Addr) (c : Nat) (l : List α), v = .slice A l.length c ∧ l.length ≤ c ∧ d.C w A l.length l ∧ (∀ y ∈ l, wf y) := by
  obtain ⟨a, len, cap, rfl⟩ := WideShapes.okWide_slice ht hv
  obtain ⟨fuel, hf⟩ := hx
  obtain ⟨l, ⟨A, c, he, hl, hC⟩, hw, _⟩ := Rd.slice ht hc h H enc w base spare held fuel _ _ hf
  have he' : Value.slice a len cap = .slice A l.length c := by simpa [Value.cells] using he
  exact ⟨A, c, l, he', hl, hC, hw⟩
end Go.Proofs.YtpejloegidailaaDoor.X
