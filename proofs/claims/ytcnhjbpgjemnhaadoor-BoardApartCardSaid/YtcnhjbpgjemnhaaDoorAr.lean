/- An array of three integers as an argument. -/
import Derived.Test.YtcnhjbpgjemnhaaDoorX1
namespace Go.Proofs.YtcnhjbpgjemnhaaDoor.X
open Go.RowKit Go.Proofs.YtcnhjbpgjemnhaaDoorW.PrintWords
set_option linter.unusedVariables false
set_option linter.unusedSimpArgs false
theorem open_arr3 {H : Type} {P : Program} {t e : TypeId} (ht : P.underlying t = some (.array 3 e)) (he : P.underlying e = some (.int .i64)) (hce : P.cellsOf e = 1) (hct : P.cellsOf t = 3) {enc : TypeId × Value → H} {w : World} {base b0 : Nat} {spare : Nat → Bool} {held : Bool} {r : Reach} {v : Value} {x : DataW H} {p : List MemPlace}
    (hv : Value.okWide P w r b0 t v) (hx : DataW.Trod enc P w base spare held t v x p) : ∃ a b c : Int, v = .agg #[.int .i64 a, .int .i64 b, .int .i64 c] ∧ I64 a ∧ I64 b ∧ I64 c := by
  simp only [Value.okWide, ht] at hv
  obtain ⟨cs, rfl, hsz, _⟩ := hv
  obtain ⟨fuel, hf⟩ := hx
  obtain ⟨xs, m, _, _, hl, hn, hel⟩ := DataW.trod_array ht hf
  have hl3 : cs.toList.length = 3 := by simpa [Value.cells, hct] using hl
  have key : ∀ i, i < 3 → ∃ n : Int, cs.toList[i]? = some (.int .i64 n) ∧ I64 n := fun i hi => by
    have h1 := hel i hi
    rw [List.getElem?_eq_getElem (by omega)] at h1
    obtain ⟨y, hy, hw⟩ := Rd.int he H enc w base spare held m _ _ h1
    refine ⟨y, ?_, hw⟩
    have hy' : ((Value.agg cs).cells.toList.drop (i * P.cellsOf e)).take (P.cellsOf e) = [.int .i64 y] := hy
    rw [hce, Nat.mul_one] at hy'
    have h2 := congrArg (fun l => l[0]?) hy'
    simpa [Value.cells, List.getElem?_take, List.getElem?_drop] using h2
  obtain ⟨a, ha, wa⟩ := key 0 (by omega)
  obtain ⟨b, hb, wb⟩ := key 1 (by omega)
  obtain ⟨c, hc, wc⟩ := key 2 (by omega)
  refine ⟨a, b, c, ?_, wa, wb, wc⟩
  congr 1
  apply Array.toList_inj.1
  match hcs : cs.toList, hl3 with
  | [x0, x1, x2], _ =>
    rw [hcs] at ha hb hc
    simp at ha hb hc
    rw [ha, hb, hc]
end Go.Proofs.YtcnhjbpgjemnhaaDoor.X
