/- A guarded operation whose guard isn't decided: carried out or not, one value. -/
import Derived.Test.YtpejloegidailaaDoorWInvWords
import Derived.Test.YtpejloegidailaaDoorWLast
import Derived.Test.YtpejloegidailaaDoorX1
namespace Go.Proofs.YtpejloegidailaaDoor.X
open Go.RowKit Go.Proofs.YtpejloegidailaaDoorW.PrintWords Go.Proofs.YtpejloegidailaaDoorW.PrintLast
set_option linter.unusedVariables false
set_option linter.unusedSimpArgs false
section
variable {P : Program} {ops : Array Oper} {Q : Exit → Act → World → Prop}
theorem wt_ {o og : Oper} {a : Act} {g : Nat} {t : Tmp} {tb : Bool} (hg : o.guard = some (g, true)) (ho : ops[g]? = some og) (hd : og.dst = some t) (hv : a.tmps[t]? = some (.bool tb)) : Region.wanted o (yielded ops a.tmps) = tb := by
  cases tb <;> simp [Region.wanted, hg, yielded, ho, hd, hv]
theorem wf_ {o og : Oper} {a : Act} {g : Nat} {t : Tmp} {tb : Bool} (hg : o.guard = some (g, false)) (ho : ops[g]? = some og) (hd : og.dst = some t) (hv : a.tmps[t]? = some (.bool tb)) : Region.wanted o (yielded ops a.tmps) = (!tb) := by
  cases tb <;> simp [Region.wanted, hg, yielded, ho, hd, hv]
theorem wct_ {o og : Oper} {a : Act} {g : Nat} {t : Tmp} {c tb : Bool} (hg : o.guard = some (g, true)) (ho : ops[g]? = some og) (hd : og.dst = some t) (hv : a.tmps[t]? = some (bif c then .bool tb else undef)) : Region.wanted o (yielded ops a.tmps) = (c && tb) := by
  cases c <;> cases tb <;> simp_all [Region.wanted, yielded, undef]
theorem wcf_ {o og : Oper} {a : Act} {g : Nat} {t : Tmp} {c tb : Bool} (hg : o.guard = some (g, false)) (ho : ops[g]? = some og) (hd : og.dst = some t) (hv : a.tmps[t]? = some (bif c then .bool tb else undef)) : Region.wanted o (yielded ops a.tmps) = (c && !tb) := by
  cases c <;> cases tb <;> simp_all [Region.wanted, yielded, undef]
theorem condv_ {oi : Oper} {N : Option Tmp} {a : Act} {w : World} {v : Value} {K : Act → World → Prop} (c : Bool) (hw : Region.wanted oi (yielded ops a.tmps) = c) (hN : oi.dst = N) (hrun : c = true → (execOp a.eval oi).run P w = .ok (.value v) w)
    (h : K (a.put N (bif c then v else undef)) w) : if Region.wanted oi (yielded ops a.tmps) = true then Oper.wp P oi a w K Q else K (a.put N undef) w := by
  cases c
  · rw [hw, if_neg (by simp)]
    exact h
  · exact value_ hw hN (hrun rfl) h
theorem condg_ {oi : Oper} {N : Option Tmp} {a : Act} {w : World} {v : Value} {K : Act → World → Prop} {f : FuncId} {fn : Func} {as : Array Operand} {ts : Array TypeId} (c : Bool) (hw : Region.wanted oi (yielded ops a.tmps) = c)
    (hf : P.funcs[f]? = some fn) (hname : (fn.name == "runtime.NumGoroutine") = false) (hb : fn.body.isSome = true) (args : Array Value) (hN : oi.dst = N) (hop : oi.op = .call { callee := .value (.func f), args := as, argTypes := ts }) (hargs : c = true → as.map a.eval = args)
    (h : c = true → Calls P f args w fun e w' => e = .returned v ∧ Below w.heap.size w w') (hK : ∀ w1, Below w.heap.size w w1 → K (a.put N (bif c then v else undef)) w1) : if Region.wanted oi (yielded ops a.tmps) = true then Oper.wp P oi a w K Q else K (a.put N undef) w := by
  cases c
  · rw [hw, if_neg (by simp)]
    exact hK w (Below.refl _ _)
  · refine goes_ hf hname hb args hw hN hop (hargs rfl) ((h rfl).mono ?_)
    rintro e w1 ⟨rfl, hb1⟩
    exact ⟨_, rfl, hK w1 hb1⟩
theorem por_ {o : Oper} {a : Act} {w : World} {c y : Bool} {tc ty : Tmp} {m : Value} (ho : o.op = .pick (.tmp tc) (.const (.bool true)) (.tmp ty)) (hc : a.tmps[tc]? = some (.bool c)) (hm : a.tmps[ty]? = some m) (h : c = false → m = .bool y) : (execOp a.eval o).run P w = .ok (.value (.bool (c || y))) w := by
  cases c
  · cases h rfl
    simp [execOp, ho, asBool, Act.eval, Array.getD_eq_getD_getElem?, hc, hm]
  · simp [execOp, ho, asBool, Act.eval, Array.getD_eq_getD_getElem?, hc, hm]
theorem pand_ {o : Oper} {a : Act} {w : World} {c y : Bool} {tc ty : Tmp} {m : Value} (ho : o.op = .pick (.tmp tc) (.tmp ty) (.const (.bool false))) (hc : a.tmps[tc]? = some (.bool c)) (hm : a.tmps[ty]? = some m) (h : c = true → m = .bool y) : (execOp a.eval o).run P w = .ok (.value (.bool (c && y))) w := by
  cases c
  · simp [execOp, ho, asBool, Act.eval, Array.getD_eq_getD_getElem?, hc, hm]
  · cases h rfl
    simp [execOp, ho, asBool, Act.eval, Array.getD_eq_getD_getElem?, hc, hm]
end
/-! ### rows made in a region -/
theorem R_lit_alloc {α : Type} (d : Kd α) (e : Nat) {base : Nat} (W : World) (hbase : base ≤ W.heap.size) {xs : List α} {inner : List Value} (hrep : Reps (d.M W base (fun _ => False)) d.sz xs inner) (hm : xs.length ≤ 9223372036854775807) :
    d.R e (W.alloc (.cells inner.toArray e)) base (fun _ => True) (.slice (some ⟨W.heap.size, 0, none⟩) xs.length xs.length) xs := by
  refine ⟨fun _ _ => trivial, inner, ?_, ?_⟩
  · have h2 := World.ownsRow_lit (base := base) (e := e) (size := d.sz) W inner.toArray xs.length hbase (by simpa [maxLen] using hm) (by simpa using hrep.1)
    simpa using h2
  · refine hrep.imp_ (fun p c hp => d.M_mono (fun k hk => ⟨trivial, fun he => ?_⟩) (Kd.M_below (d.M_bound hp) (below_alloc (Below.refl _ _) _)))
    exact hk.1.elim
theorem ne_fresh {g n : Nat} (h : g < n) {m c : Nat} : some g ≠ (Value.slice (some ⟨n, 0, none⟩) m c).ownBlock := by
  simp [Value.ownBlock]
  omega
theorem ne_app {g n : Nat} {v v1 : Value} (hat : v1.ownBlock = v.ownBlock ∨ ∃ b, v1.ownBlock = some b ∧ n ≤ b) (h : some g ≠ v.ownBlock) (hg : g < n) : some g ≠ v1.ownBlock := by
  rcases hat with e | ⟨b, e, hb⟩
  · rw [e]
    exact h
  · rw [e]
    intro he
    cases he
    omega
/-- A value that is a slice whose elements read as a list. -/
def Sl {α : Type} (d : Kd α) (w : World) (v : Value) (xs : List α) : Prop := ∃ A c, v = .slice A xs.length c ∧ xs.length ≤ c ∧ Kd.C d w A xs.length xs
theorem Sl_below {α : Type} {d : Kd α} {w w1 : World} {v : Value} {xs : List α} (h : Sl d w v xs) (hb : Below w.heap.size w w1) : Sl d w1 v xs := by
  obtain ⟨A, c, e, hc, h⟩ := h
  exact ⟨A, c, e, hc, Kd.C_below h hb⟩
theorem Sl_R {α : Type} {d : Kd α} {e base : Nat} {ok : Nat → Prop} {w : World} {v : Value} {xs : List α} (h : Kd.R d e w base ok v xs) : Sl d w v xs := Kd.R_reads h
theorem Sl_mk {α : Type} {d : Kd α} {w : World} {A : Option Addr} {c : Nat} {xs : List α} (h : Kd.C d w A xs.length xs) (hc : xs.length ≤ c) : Sl d w (.slice A xs.length c) xs := ⟨A, c, rfl, hc, h⟩
theorem Sl_nil {α : Type} (d : Kd α) (w : World) : Sl d w (.slice none 0 0) [] := Sl_R (Kd.R_nil d 0 w 0 (fun _ => True))
theorem Sl_blk {α : Type} {d : Kd α} {w : World} {g e : Nat} {fr : Nat × Nat} {cells : Array Value} {xs : List α} (hh : w.heap[g]? = some (.cells cells e fr)) (hR : Reps (d.K w) d.sz xs cells.toList) (hm : xs.length ≤ 9223372036854775807) : Sl d w (.slice (some ⟨g, 0, none⟩) xs.length xs.length) xs := Sl_mk (C_of_block hh hR hm) (Nat.le_refl _)
/-- The same without what its cap says. -/
def Sc {α : Type} (d : Kd α) (w : World) (v : Value) (xs : List α) : Prop := ∃ A c, v = .slice A xs.length c ∧ Kd.C d w A xs.length xs
theorem Sc_mk {α : Type} {d : Kd α} {w : World} {A : Option Addr} {c : Nat} {xs : List α} (h : Kd.C d w A xs.length xs) : Sc d w (.slice A xs.length c) xs := ⟨A, c, rfl, h⟩
theorem Sl_sc {α : Type} {d : Kd α} {w : World} {v : Value} {xs : List α} (h : Sl d w v xs) : Sc d w v xs := by
  obtain ⟨A, c, e, _, h⟩ := h
  exact ⟨A, c, e, h⟩
end Go.Proofs.YtpejloegidailaaDoor.X
