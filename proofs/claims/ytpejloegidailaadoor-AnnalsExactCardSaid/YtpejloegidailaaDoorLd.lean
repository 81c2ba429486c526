/- What a list of sentinels that a row lays says of the world. -/
import Derived.Stop.LaidErr
import Derived.ProofKit
namespace Go.Proofs.YtpejloegidailaaDoor.X
set_option linter.unusedVariables false
set_option linter.unusedSimpArgs false

def SentsAt (P : Program) (W : World) (tp : TypeId) : List (String × List UInt8) → List Addr → Prop
  | [], [] => True
  | x :: L, a :: as => (∃ (s : ByteArray) (c : Array Value) (t : TypeId), W.var? P x.1 = some #[.iface tp (.pointer (some a))] ∧ W.cell? a = some (.string s) ∧ W.heap[a.block]? = some (.cells c t (0, 0))) ∧ SentsAt P W tp L as
  | _, _ => False
theorem laid_sents0 {P : Program} {nm : String} {W : World} {ti tp te ts : TypeId} {ms : Array (String × TypeId)} {f : Field}
    (hi : P.underlying ti = some (.interface ms)) (hrow : ∀ u, P.typeName? 3 u = some nm → u = tp)
    (hp : P.underlying tp = some (.pointer te)) (he : P.underlying te = some (.struct #[f])) (hft : f.type = ts) (hfo : f.offset = 0) (hs : P.underlying ts = some .string) (hc : P.cellsOf te = 1) (hcs : P.cellsOf ts = 1) :
    ∀ (L : List (String × List UInt8)) (ps : List MemPlace), (∀ x ∈ L, ∃ g, P.globalNamed x.1 = some g ∧ (P.globals[g]?).map (·.type) = some ti) →
      DataW.LaidVars P W (L.map fun x => (x.1, .iface nm (.ptr (.agg [.lit (.string x.2)])))) ps → ps.Nodup →
      (∀ b off, MemPlace.cell b off ∈ ps → (∃ c t, W.heap[b]? = some (.cells c t (0, 0))) ∧ ∀ u v, W.cell? ⟨b, off, none⟩ = some (.iface u v) → Value.okWide P W .any 0 u v) →
      ∃ as : List Addr, as.Nodup ∧ SentsAt P W tp L as ∧ ∀ a ∈ as, MemPlace.cell a.block a.off ∈ ps
  | [], _, _, _, _, _ => ⟨[], by simp, trivial, by simp⟩
  | x :: L, ps, hT, h, hnd, hrows => by
    obtain ⟨g0, t0, cs0, f0, p0, q0, hg0, ht0, hv0, hd0, hrest, e0⟩ := h
    subst e0
    obtain ⟨g, hg, ht⟩ := hT x (by simp)
    obtain rfl := Option.some.inj (hg.symm.trans hg0)
    obtain rfl := Option.some.inj (ht.symm.trans ht0)
    obtain ⟨l0⟩ := cs0
    have ok0 : ∀ u v, l0 = [.iface u v] → Value.okWide P W .any 0 u v := fun u v e => by
      subst e
      exact (hrows g 0 (by simp [MemPlace.row])).2 u v (by simpa using World.var?_cell hg hv0 0)
    obtain ⟨a0, s0, rfl, hc0, hs0, hz0, rfl⟩ := errorString_of_trod hi hrow hp he hft hfo hs hc hcs hd0 ok0
    obtain ⟨c0, t0, hb0⟩ := (hrows a0.block a0.off (by simp [MemPlace.row])).1
    obtain ⟨as, hn, hS, hm⟩ := laid_sents0 hi hrow hp he hft hfo hs hc hcs L _ (fun y hy => hT y (by simp [hy])) hrest (by
      have h1 := hnd
      simp only [List.nodup_append] at h1
      first | exact h1.2.1 | (simp_all)) (fun b off hb => hrows b off (by simp [hb]))
    refine ⟨a0 :: as, ?_, ⟨⟨s0, c0, t0, hv0, hc0, hb0⟩, hS⟩, ?_⟩
    · rw [List.nodup_cons]
      refine ⟨fun hmem => ?_, hn⟩
      have h1 := hm a0 hmem
      simp [MemPlace.row, List.nodup_append] at hnd
      simp_all
    · intro a ha
      rcases List.mem_cons.1 ha with rfl | ha
      · simp [MemPlace.row]
      · exact List.mem_append_right _ (hm a ha)
theorem laid_sents {P : Program} {nm : String} {W : World} {ti tp te ts : TypeId} {ms : Array (String × TypeId)} {f : Field}
    (hi : P.underlying ti = some (.interface ms)) (hrow : ∀ u, P.typeName? 3 u = some nm → u = tp)
    (hp : P.underlying tp = some (.pointer te)) (he : P.underlying te = some (.struct #[f])) (hft : f.type = ts) (hfo : f.offset = 0) (hs : P.underlying ts = some .string) (hc : P.cellsOf te = 1) (hcs : P.cellsOf ts = 1)
    (L : List (String × List UInt8)) (hT : ∀ x ∈ L, ∃ g, P.globalNamed x.1 = some g ∧ (P.globals[g]?).map (·.type) = some ti)
    (h : laidMet P (L.map fun x => (x.1, .iface nm (.ptr (.agg [.lit (.string x.2)])))) W) : ∃ as : List Addr, as.Nodup ∧ SentsAt P W tp L as := by
  obtain ⟨ps, h1, h2, h3⟩ := h
  obtain ⟨as, hn, hS, _⟩ := laid_sents0 hi hrow hp he hft hfo hs hc hcs L ps hT h1 h2 h3
  exact ⟨as, hn, hS⟩
end Go.Proofs.YtpejloegidailaaDoor.X
