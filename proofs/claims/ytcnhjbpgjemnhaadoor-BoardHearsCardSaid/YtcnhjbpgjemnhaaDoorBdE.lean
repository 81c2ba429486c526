/- Say, Hear; what the references answer; right. -/
import Derived.Test.YtcnhjbpgjemnhaaDoorBdC
namespace Go.Proofs.YtcnhjbpgjemnhaaDoor.Bd
open Go.RowKit Go.Proofs.YtcnhjbpgjemnhaaDoorW.PrintWords Go.Proofs.YtcnhjbpgjemnhaaDoorW.PrintLast Go.Proofs.YtcnhjbpgjemnhaaDoorW.PrintMore Go.Proofs.YtcnhjbpgjemnhaaDoor.X
set_option linter.unusedVariables false
set_option linter.unusedSimpArgs false
attribute [local go_sem high] eqA25 eqA48 eqA50

/-- What is said of a span that can be. -/
def sayOk (s : S48) : Prop := s = z48 ∨ (s.f0 = true ∧ 0 ≤ s.f1 ∧ s.f1 ≤ s.f2 ∧ s.f2 ≤ 1099511627776)
def sayW (s : S48) : S50 := if s.f0 then ⟨0, 0, s.f2, s.f1, true⟩ else z50
def hearF (x : S50) : S48 := if x.f4 then ⟨true, x.f3, x.f2⟩ else z48
theorem hear_say (s : S48) (h : sayOk s) : hearF (sayW s) = s := by
  obtain ⟨a, b, c⟩ := s
  rcases h with h | ⟨h, _⟩
  · cases h
    rfl
  · cases h
    rfl
theorem res_span {fn : Func} {a : Act} {w : World} {g : Nat} {t : Tmp} {x0 x1 x2 : Value} (hres : fn.results = #[.cell t 48]) (ht : a.tmps[t]? = some (.pointer (some ⟨g, 0, none⟩)))
    (hx : w.heap[g]? = some (.cells #[x0, x1, x2] 48 (0, 0))) : (results fn a.tmps).run Tryd.prog w = .ok (.agg #[x0, x1, x2]) w := by
  have hu := Tryd.underlying48
  have y0 : w.cell? ⟨g, 0, none⟩ = some x0 := (blk_cell hx 0).trans rfl
  have y1 : w.cell? ⟨g, 1, none⟩ = some x1 := (blk_cell hx 1).trans rfl
  have y2 : w.cell? ⟨g, 2, none⟩ = some x2 := (blk_cell hx 2).trans rfl
  simp [results, hres, go_sem, ht, y0, y1, y2]
theorem hear_c (x : S50) (w : World) : Calls Tryd.prog 24 #[v50 x] w fun e w' => e = .returned (v48 (hearF x)) ∧ Below w.heap.size w w' := by
  have hu := Tryd.underlying50
  have hu2 := Tryd.underlying48
  obtain ⟨a, b, c, d, m⟩ := x
  go_enter Tryd.func24, Tryd.ntmps24
  cases m
  · go_wp2
    refine bodyPost_ret (res_span (x0 := .bool false) (x1 := .int .i64 0) (x2 := .int .i64 0) Tryd.results24 rfl ?_) rfl ⟨rfl, ?_⟩
    · simpa using blk_new (w.alloc _) _
    · exact below_alloc (below_alloc (Below.refl _ _) _) _
  · go_wp2
    refine bodyPost_ret (res_span (x0 := .bool true) (x1 := .int .i64 d) (x2 := .int .i64 c) Tryd.results24 rfl ?_) rfl ⟨rfl, ?_⟩
    · simpa using blk_new (w.alloc _) _
    · exact below_alloc (below_alloc (Below.refl _ _) _) _
end Go.Proofs.YtcnhjbpgjemnhaaDoor.Bd
