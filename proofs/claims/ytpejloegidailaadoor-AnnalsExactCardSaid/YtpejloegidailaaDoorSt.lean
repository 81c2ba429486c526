/- A store into a row of one's own in a region that draws its order; goals held back; blocks kept; maps kept. -/
import Derived.Test.YtpejloegidailaaDoorX2
import Derived.Test.YtpejloegidailaaDoorX3
import Derived.Maps.OwnSet
namespace Go.Proofs.YtpejloegidailaaDoor.X
open Go.RowKit Go.Maps Go.Proofs.YtpejloegidailaaDoorW.PrintWords Go.Proofs.YtpejloegidailaaDoorW.PrintLast Go.Proofs.YtpejloegidailaaDoorW.PrintMore
set_option linter.unusedVariables false
set_option linter.unusedSimpArgs false

def Hold (p : Prop) : Prop := p
theorem hold {p : Prop} (h : Hold p) : p := h
theorem bel {base : Nat} {w0 w w1 : World} (h : Below base w0 w) (hb : base ≤ w.heap.size) (h1 : Below w.heap.size w w1) : Below base w0 w1 := h.trans ⟨h1.os, h1.tape, h1.output, h1.size, fun k hk => h1.block k (by omega)⟩
theorem bel_grown {base : Nat} {w0 w w1 : World} {row : Option Nat} (h : Below base w0 w) (hg : w.grownBy w1 row) (hr : ∀ k, row = some k → base ≤ k) (hb : base ≤ w.heap.size) : Below base w0 w1 :=
  h.trans ⟨hg.os, hg.tape, hg.output, hg.size, fun k hk => hg.block k (by omega) (fun e => by have := hr k e.symm; omega)⟩
theorem blk_grownBy {w w1 : World} {row : Option Nat} {g : Nat} {o : Obj} (hg : w.grownBy w1 row) (hne : some g ≠ row) (h : w.heap[g]? = some o) : w1.heap[g]? = some o := (hg.block g (blk_lt h) hne).trans h
/-- A map's reading hangs on its block alone. -/
theorem om_blk {H : Type} {P : Program} {k : TypeId} {R : Value → Option (DataW H × List MemPlace)} {b n : Nat} {D : DataW H} {w w1 : World} (h : w.ownsMap P k R b n D) (he : w1.heap[b]? = w.heap[b]?) : w1.ownsMap P k R b n D := by
  obtain ⟨es, clock, hb, hr⟩ := h
  exact ⟨es, clock, he.trans hb, hr⟩
theorem om_below {H : Type} {P : Program} {k : TypeId} {R : Value → Option (DataW H × List MemPlace)} {b n : Nat} {D : DataW H} {w w1 : World} (h : w.ownsMap P k R b n D) (hb : Below w.heap.size w w1) : w1.ownsMap P k R b n D := om_blk h (hb.block b h.lt)
/-- The map's block is no row's. -/
theorem om_ne {H α : Type} {P : Program} {k e base b n : Nat} {R : Value → Option (DataW H × List MemPlace)} {D : DataW H} {w : World} {d : Kd α} {ok : Nat → Prop} {v : Value} {xs : List α} (h : w.ownsMap P k R b n D) (hR : Kd.R d e w base ok v xs) : some b ≠ v.ownBlock := by
  intro he
  obtain ⟨cells, hc⟩ := Kd.R_typed hR b he.symm
  obtain ⟨es, clock, hb, _⟩ := h
  rw [hb] at hc
  cases hc
theorem R_other {α : Type} {d : Kd α} {e base : Nat} {w w1 : World} {v : Value} {xs : List α} {row : Option Nat} (hE : d.E = []) (h : Kd.R d e w base (fun _ => True) v xs) (hg : w.grownBy w1 row) (hne : ∀ k, v.ownBlock = some k → some k ≠ row) : Kd.R d e w1 base (fun _ => True) v xs :=
  Kd.R_mono (Kd.R_step (Kd.R_tight hE h) (fun k hk hl => hg.block k hl (hne k hk.symm))) (fun _ _ => trivial)
section
variable {P : Program} {ops : Array Oper} {Q : Exit → Act → World → Prop} {α : Type}
/-- A store into element i of a row of one's own, in a region that draws its order. -/
theorem R_store_step (d : Kd α) {oi : Oper} {a : Act} {w w0 : World} {K : Act → World → Prop} (base : Nat) (hw : Region.wanted oi (yielded ops a.tmps) = true) (hN : oi.dst = none) (t : TypeId) (p : Tmp) (x : Operand) (ho : oi.op = .store t (.tmp p) x) (e : TypeId) {g n cap o' : Nat} (i : Nat) (j : Nat) (xs : List α) (y x' : α) (u : Value) (seg c : List Value)
    (haddr : a.tmps[p]? = some (.pointer (some ⟨g, o', none⟩))) (hoff : o' = i * d.sz + j) (hx : a.eval x = u) (hu : u.cells.toList = seg) (ht : (P.info? t).map (·.size) = some seg.length) (h1 : ∀ q ∈ seg, q.oneCell' = true)
    (HO : d.R e w base (fun _ => True) (.slice (some ⟨g, 0, none⟩) n cap) xs) (hi : i < n) (hy : xs[i]? = some y) (hc : ∀ cs, d.M w base (fun k => True ∧ k ≠ g) y cs → cs = c)
    (hj : j + seg.length ≤ d.sz) (hM : d.M w base (fun _ => False) x' (c.take j ++ seg ++ c.drop (j + seg.length))) (HB : Below base w0 w)
    (h : ∀ w1, d.R e w1 base (fun _ => True) (.slice (some ⟨g, 0, none⟩) n cap) (xs.set i x') → Below base w0 w1 → w.grownBy w1 (some g) → K a w1) : if Region.wanted oi (yielded ops a.tmps) = true then Oper.wp P oi a w K Q else K (a.put none undef) w := by
  subst hoff
  obtain ⟨c', hcl, hMc, hcc, _⟩ := Kd.R_elem HO y (i : Int) (by omega) (by omega)
  have hyy : xs.getD (i : Int).toNat y = y := by simp [List.getD, hy]
  rw [hyy] at hMc
  obtain rfl := hc c' hMc
  simp only [Int.toNat_natCast] at hcc
  obtain ⟨hrow, hg⟩ := Kd.R_seg HO (i : Int) (by omega) (by omega) hcl (by simpa using hcc) hj hM (fun _ h => h.elim)
  simp only [Int.toNat_natCast] at hrow hg
  have hbg : base ≤ g := Kd.R_base HO g (by simp [Value.ownBlock])
  have hnx : n = xs.length := (Kd.R_reads' HO).1
  obtain ⟨_, inner, hown, hr⟩ := HO
  have hB : Below base w0 (w.setCells g (i * d.sz + j) seg) := HB.trans ⟨hg.os, hg.tape, hg.output, hg.size, fun k hk => setCells_far seg _ k (by omega)⟩
  have hrun : (Instr.storeAt t (.pointer (some ⟨g, i * d.sz + j, none⟩)) u).run P w = .ok () (w.setCells g (i * d.sz + j) seg) := by
    rcases hown.2 with ⟨hv, _⟩ | ⟨g', cap', cur, hv, hb, hh, hnc, hcm, hcs, _⟩
    · cases hv
    injection hv with ha _ hc
    injection ha with ha
    injection ha with hg'
    subst hg'; subst hc
    refine run_store_run t u seg hh hu ht ?_ h1
    have h2 : i * d.sz + d.sz ≤ n * d.sz := by rw [← Nat.succ_mul]; exact Nat.mul_le_mul_right _ hi
    have h3 : n * d.sz ≤ cap * d.sz := Nat.mul_le_mul_right _ (by omega)
    omega
  refine skip_ hw hN (w1 := w.setCells g (i * d.sz + j) seg) ?_ (h _ hrow hB hg)
  have hev : a.eval (.tmp p) = .pointer (some ⟨g, i * d.sz + j, none⟩) := by simp [Act.eval, Array.getD_eq_getD_getElem?, haddr]
  unfold execOp
  simp only [ho, hev, hx, Sem.run_bind, Sem.run_pure, Result.andThen_ok, hrun]
end
end Go.Proofs.YtpejloegidailaaDoor.X
