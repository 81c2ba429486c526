/- WoeSeveral: of two errors at once the least number is told: no condition but those the statement has. -/
import Derived.Test.YtlednfddidpcdaaDoorCards
import Derived.Test.YtlednfddidpcdaaDoorTie
import Derived.Test.YtlednfddidpcdaaDoorLd
import Derived.Test.YtlednfddidpcdaaDoorWoL
import Derived.WalkKit
import Derived.ProofKit
import Derived.OpenShut
import Derived.ShutString
import Derived.ChangeOld
import Derived.Below
import Derived.SizedLaws
import Derived.Lay
import Derived.Deep.DeepHandedRow
import Derived.Deep.DeepWitnessRowRef
import Derived.LaidLaws
import Derived.LaidSub
import Derived.LaidHandle
namespace Go.Proofs.YtlednfddidpcdaaDoor.woeSeveral
open Go.ChangeShapes Go.WideShapes Go.ChangeAt Go.RowKit
open Go.ChangeMaps (open_string shut_string)
open Go.Proofs.YtlednfddidpcdaaDoorW.PrintWords Go.Proofs.YtlednfddidpcdaaDoor.X
set_option linter.unusedVariables false
theorem own : ownKnob Tryd.prog.godebug = none := by kernel_rfl
theorem laidOut : laidOutB Tryd.prog = true := by kernel_rfl
theorem rowT (u : TypeId) (h : Tryd.prog.typeName? 3 u = some "*errors.errorString") : u = 55 :=
  typeName_ptr_named (nm := "errors.errorString") (by rw [show "*" ++ "errors.errorString" = "*errors.errorString" by decide]; kernel_rfl) (by kernel_rfl) (by decide) u (by rw [show "*" ++ "errors.errorString" = "*errors.errorString" by decide]; exact h)
def L0 : List (String × List UInt8) := [("sexton/api.ErrArg", [97, 110, 32, 97, 114, 103, 117, 109, 101, 110, 116, 32, 116, 104, 97, 116, 32, 99, 97, 110, 39, 116, 32, 98, 101]), ("sexton/api.ErrNil", [97, 32, 110, 105, 108, 32, 116, 104, 105, 110, 103]), ("sexton/api.ErrFull", [110, 111, 32, 114, 111, 111, 109]), ("sexton/api.ErrNone", [116, 104, 101, 114, 101, 32, 105, 115, 32, 110, 111, 110, 101]), ("sexton/api.ErrState", [110, 111, 116, 32, 110, 111, 119]), ("sexton/api.ErrFreed", [97, 32, 115, 108, 111, 116, 32, 116, 104, 97, 116, 32, 105, 115, 32, 102, 114, 101, 101]), ("sexton/api.ErrStale", [97, 32, 115, 108, 111, 116, 32, 116, 104, 97, 116, 32, 105, 115, 32, 97, 110, 111, 116, 104, 101, 114, 32, 111, 110, 101, 32, 110, 111, 119]), ("sexton/api.ErrTwice", [100, 111, 110, 101, 32, 97, 108, 114, 101, 97, 100, 121]), ("sexton/api.ErrLeft", [97, 32, 102, 114, 101, 101, 32, 115, 108, 111, 116, 32, 116, 104, 97, 116, 32, 99, 97, 110, 32, 98, 101, 32, 114, 101, 97, 99, 104, 101, 100]), ("sexton/api.ErrLong", [116, 111, 111, 32, 108, 111, 110, 103]), ("sexton/api.ErrWord", [110, 111, 32, 119, 111, 114, 100])]
def plainLaid : List (String × DataW Unit) := [("sexton/api.ErrArg", Rows.laid_sexton_api_ErrArg), ("sexton/api.ErrNil", Rows.laid_sexton_api_ErrNil), ("sexton/api.ErrFull", Rows.laid_sexton_api_ErrFull), ("sexton/api.ErrNone", Rows.laid_sexton_api_ErrNone), ("sexton/api.ErrState", Rows.laid_sexton_api_ErrState), ("sexton/api.ErrFreed", Rows.laid_sexton_api_ErrFreed), ("sexton/api.ErrStale", Rows.laid_sexton_api_ErrStale), ("sexton/api.ErrTwice", Rows.laid_sexton_api_ErrTwice), ("sexton/api.ErrLeft", Rows.laid_sexton_api_ErrLeft), ("sexton/api.ErrLong", Rows.laid_sexton_api_ErrLong), ("sexton/api.ErrWord", Rows.laid_sexton_api_ErrWord)]
theorem rowNamedOnly : ∀ t, t < Tryd.prog.types.size → Tryd.prog.rowNamed t [101, 114, 114, 111, 114] = true → t = 25 := by
  have h : (List.range Tryd.prog.types.size).all (fun t => !Tryd.prog.rowNamed t [101, 114, 114, 111, 114] || t == 25) = true := by kernel_rfl
  intro t ht hr
  have h2 := List.all_eq_true.1 h t (List.mem_range.2 ht)
  rw [hr] at h2
  simpa using h2
theorem handleGives {W : World} (hH : handlesMet Tryd.prog ((Rows.woeSeveralRow.laid).filter fun x => x.2.handleName?.isSome) W) : W.cell? ⟨11, 0, none⟩ = some (.iface 73 (.agg #[.pointer (some ⟨Tryd.prog.globals.size, 25, none⟩)])) := by
  have h := hH ("errors.errorType", Rows.laid_errors_errorType) (show ("errors.errorType", Rows.laid_errors_errorType) ∈ [("errors.errorType", Rows.laid_errors_errorType)] from List.mem_singleton.2 rfl)
  obtain ⟨name, u, ty, e1, e2, e3, e4, e5⟩ := (show ∃ name u ty, (Rows.laid_errors_errorType : DataW Unit).handleName? = some name ∧ (Tryd.prog.cutTypes.find? (·.1 == "internal/reflectlite.rtype")).map (·.2) = some u ∧ ty < Tryd.prog.types.size ∧ Tryd.prog.rowNamed ty name = true ∧ W.var? Tryd.prog "errors.errorType" = some #[.iface u (.agg #[typeHandle Tryd.prog ty])] from h)
  obtain rfl : [101, 114, 114, 111, 114] = name := Option.some.inj ((show (Rows.laid_errors_errorType : DataW Unit).handleName? = some [101, 114, 114, 111, 114] by kernel_rfl).symm.trans e1)
  obtain rfl : 73 = u := Option.some.inj ((show (Tryd.prog.cutTypes.find? (·.1 == "internal/reflectlite.rtype")).map (·.2) = some 73 by kernel_rfl).symm.trans e2)
  obtain rfl := rowNamedOnly ty e3 e4
  simpa [typeHandle] using World.var?_cell (g := 11) (by kernel_rfl) e5 0
theorem laidGives {W : World} (hL : laidMetH Tryd.prog Rows.woeSeveralRow.laid W) : ∃ aErrArg aErrNil aErrFull aErrNone aErrState aErrFreed aErrStale aErrTwice aErrLeft aErrLong aErrWord : Addr, W.cell? ⟨0, 0, none⟩ = some (Sent aErrArg) ∧ W.cell? ⟨1, 0, none⟩ = some (Sent aErrNil) ∧ W.cell? ⟨2, 0, none⟩ = some (Sent aErrFull) ∧ W.cell? ⟨3, 0, none⟩ = some (Sent aErrNone) ∧ W.cell? ⟨4, 0, none⟩ = some (Sent aErrState) ∧ W.cell? ⟨5, 0, none⟩ = some (Sent aErrFreed) ∧ W.cell? ⟨6, 0, none⟩ = some (Sent aErrStale) ∧ W.cell? ⟨7, 0, none⟩ = some (Sent aErrTwice) ∧ W.cell? ⟨8, 0, none⟩ = some (Sent aErrLeft) ∧ W.cell? ⟨9, 0, none⟩ = some (Sent aErrLong) ∧ W.cell? ⟨10, 0, none⟩ = some (Sent aErrWord) ∧ (∃ c t, W.heap[aErrArg.block]? = some (.cells c t (0, 0))) ∧ (∃ c t, W.heap[aErrNil.block]? = some (.cells c t (0, 0))) ∧ (∃ c t, W.heap[aErrFull.block]? = some (.cells c t (0, 0))) ∧ (∃ c t, W.heap[aErrNone.block]? = some (.cells c t (0, 0))) ∧ (∃ c t, W.heap[aErrState.block]? = some (.cells c t (0, 0))) ∧ (∃ c t, W.heap[aErrFreed.block]? = some (.cells c t (0, 0))) ∧ (∃ c t, W.heap[aErrStale.block]? = some (.cells c t (0, 0))) ∧ (∃ c t, W.heap[aErrTwice.block]? = some (.cells c t (0, 0))) ∧ (∃ c t, W.heap[aErrLeft.block]? = some (.cells c t (0, 0))) ∧ (∃ c t, W.heap[aErrLong.block]? = some (.cells c t (0, 0))) ∧ (∃ c t, W.heap[aErrWord.block]? = some (.cells c t (0, 0))) ∧ W.cell? ⟨11, 0, none⟩ = some (.iface 73 (.agg #[.pointer (some ⟨Tryd.prog.globals.size, 25, none⟩)])) ∧ [aErrArg, aErrNil, aErrFull, aErrNone, aErrState, aErrFreed, aErrStale, aErrTwice, aErrLeft, aErrLong, aErrWord].Nodup := by
  have hT : ∀ x ∈ L0, ∃ g, Tryd.prog.globalNamed x.1 = some g ∧ (Tryd.prog.globals[g]?).map (·.type) = some 25 := by
    intro x hx
    simp only [L0, List.mem_cons, List.not_mem_nil, or_false] at hx
    rcases hx with rfl | rfl | rfl | rfl | rfl | rfl | rfl | rfl | rfl | rfl | rfl
    · exact ⟨0, by kernel_rfl, by kernel_rfl⟩
    · exact ⟨1, by kernel_rfl, by kernel_rfl⟩
    · exact ⟨2, by kernel_rfl, by kernel_rfl⟩
    · exact ⟨3, by kernel_rfl, by kernel_rfl⟩
    · exact ⟨4, by kernel_rfl, by kernel_rfl⟩
    · exact ⟨5, by kernel_rfl, by kernel_rfl⟩
    · exact ⟨6, by kernel_rfl, by kernel_rfl⟩
    · exact ⟨7, by kernel_rfl, by kernel_rfl⟩
    · exact ⟨8, by kernel_rfl, by kernel_rfl⟩
    · exact ⟨9, by kernel_rfl, by kernel_rfl⟩
    · exact ⟨10, by kernel_rfl, by kernel_rfl⟩
  obtain ⟨hL, hHd⟩ := laidMetH_iff.1 hL
  have hHd := handleGives hHd
  obtain ⟨az, hn, hS⟩ := laid_sents (tp := 55) (te := 57) (ts := 9) (ti := 25) Tryd.underlying25 rowT Tryd.underlying55 Tryd.underlying57 rfl rfl Tryd.underlying9 (by kernel_rfl) (by kernel_rfl) L0 hT (show laidMet Tryd.prog (L0.map fun x => (x.1, .iface "*errors.errorString" (.ptr (.agg [.lit (.string x.2)])))) W from hL)
  match az, hS, hn with
  | [x0, x1, x2, x3, x4, x5, x6, x7, x8, x9, x10], hS, hn =>
    obtain ⟨⟨s0, c0, t0, hv0, hc0, hb0⟩, ⟨s1, c1, t1, hv1, hc1, hb1⟩, ⟨s2, c2, t2, hv2, hc2, hb2⟩, ⟨s3, c3, t3, hv3, hc3, hb3⟩, ⟨s4, c4, t4, hv4, hc4, hb4⟩, ⟨s5, c5, t5, hv5, hc5, hb5⟩, ⟨s6, c6, t6, hv6, hc6, hb6⟩, ⟨s7, c7, t7, hv7, hc7, hb7⟩, ⟨s8, c8, t8, hv8, hc8, hb8⟩, ⟨s9, c9, t9, hv9, hc9, hb9⟩, ⟨s10, c10, t10, hv10, hc10, hb10⟩, _⟩ := hS
    exact ⟨x0, x1, x2, x3, x4, x5, x6, x7, x8, x9, x10, by simpa using World.var?_cell (g := 0) (by kernel_rfl) hv0 0, by simpa using World.var?_cell (g := 1) (by kernel_rfl) hv1 0, by simpa using World.var?_cell (g := 2) (by kernel_rfl) hv2 0, by simpa using World.var?_cell (g := 3) (by kernel_rfl) hv3 0, by simpa using World.var?_cell (g := 4) (by kernel_rfl) hv4 0, by simpa using World.var?_cell (g := 5) (by kernel_rfl) hv5 0, by simpa using World.var?_cell (g := 6) (by kernel_rfl) hv6 0, by simpa using World.var?_cell (g := 7) (by kernel_rfl) hv7 0, by simpa using World.var?_cell (g := 8) (by kernel_rfl) hv8 0, by simpa using World.var?_cell (g := 9) (by kernel_rfl) hv9 0, by simpa using World.var?_cell (g := 10) (by kernel_rfl) hv10 0, ⟨_, _, hb0⟩, ⟨_, _, hb1⟩, ⟨_, _, hb2⟩, ⟨_, _, hb3⟩, ⟨_, _, hb4⟩, ⟨_, _, hb5⟩, ⟨_, _, hb6⟩, ⟨_, _, hb7⟩, ⟨_, _, hb8⟩, ⟨_, _, hb9⟩, ⟨_, _, hb10⟩, hHd, hn⟩
set_option maxRecDepth 100000 in
theorem contract (H : Type) (enc : TypeId × Value → H) (W : World) (base : Nat) (args : Array Value) (ds gs : List (DataW H)) (before : List MemPlace)
    (hval0 : ∀ (j : Nat) t v, Tryd.f8.params[j]? = some t → args[j]? = some v → Value.okWide Tryd.prog W .any base t v)
    (hW : DataW.Whole enc Tryd.prog Tryd.f8.params.toList Rows.woeSeveralSpec.vars false W args.toList ds gs before) (hL : laidMetH Tryd.prog Rows.woeSeveralRow.laid W) :
    Calls Tryd.prog 8 args W fun e W' => ∃ v, e = .returned v ∧ Rows.woeSeveralSpec.post enc Tryd.prog Tryd.f8 false true false false W args v W' := by
  obtain ⟨aErrArg, aErrNil, aErrFull, aErrNone, aErrState, aErrFreed, aErrStale, aErrTwice, aErrLeft, aErrLong, aErrWord, hA_ErrArg, hA_ErrNil, hA_ErrFull, hA_ErrNone, hA_ErrState, hA_ErrFreed, hA_ErrStale, hA_ErrTwice, hA_ErrLeft, hA_ErrLong, hA_ErrWord, hB_ErrArg, hB_ErrNil, hB_ErrFull, hB_ErrNone, hB_ErrState, hB_ErrFreed, hB_ErrStale, hB_ErrTwice, hB_ErrLeft, hB_ErrLong, hB_ErrWord, hHANDLE, hND⟩ := laidGives hL
  have hs : Wo.Sents W (fun k => [aErrArg, aErrNil, aErrFull, aErrNone, aErrState, aErrFreed, aErrStale, aErrTwice, aErrLeft, aErrLong, aErrWord].getD (k - 1) aErrWord) := by
    refine ⟨fun k hk => ?_, fun k hk => ?_, fun j k hj hk e => ?_, ?_⟩
    · rcases (by omega : k = 0 ∨ k = 1 ∨ k = 2 ∨ k = 3 ∨ k = 4 ∨ k = 5 ∨ k = 6 ∨ k = 7 ∨ k = 8 ∨ k = 9 ∨ k = 10) with rfl | rfl | rfl | rfl | rfl | rfl | rfl | rfl | rfl | rfl | rfl
      · exact hA_ErrArg
      · exact hA_ErrNil
      · exact hA_ErrFull
      · exact hA_ErrNone
      · exact hA_ErrState
      · exact hA_ErrFreed
      · exact hA_ErrStale
      · exact hA_ErrTwice
      · exact hA_ErrLeft
      · exact hA_ErrLong
      · exact hA_ErrWord
    · rcases (by omega : k = 0 ∨ k = 1 ∨ k = 2 ∨ k = 3 ∨ k = 4 ∨ k = 5 ∨ k = 6 ∨ k = 7 ∨ k = 8 ∨ k = 9 ∨ k = 10) with rfl | rfl | rfl | rfl | rfl | rfl | rfl | rfl | rfl | rfl | rfl
      · exact hB_ErrArg
      · exact hB_ErrNil
      · exact hB_ErrFull
      · exact hB_ErrNone
      · exact hB_ErrState
      · exact hB_ErrFreed
      · exact hB_ErrStale
      · exact hB_ErrTwice
      · exact hB_ErrLeft
      · exact hB_ErrLong
      · exact hB_ErrWord
    · simp only [Nat.add_sub_cancel] at e
      rw [List.getD_eq_getElem?_getD, List.getD_eq_getElem?_getD, List.getElem?_eq_getElem (by simpa using hj), List.getElem?_eq_getElem (by simpa using hk)] at e
      exact (List.getElem_inj hND).1 e
    · rw [show Tryd.prog.globals.size = 12 by kernel_rfl] at hHANDLE
      exact hHANDLE
  have hval : ∀ (j : Nat) t v, Tryd.f8.params[j]? = some t → args[j]? = some v → Value.okWide Tryd.prog W .any base t v := hval0
  have hW' := hW
  obtain ⟨p, q, hA0, hV, rfl, hfz, hnd⟩ := hW
  have hA : DataW.TrodAll enc Tryd.prog W 0 (fun _ => true) true Tryd.f8.params.toList args.toList ds p := hA0
  rw [Tryd.params8] at hA hval
  obtain ⟨v0, vs0, d0, ds0, p0, q0, hargs, rfl, rfl, h0, r0⟩ := trodAll_cons hA
  obtain ⟨v1, vs1, d1, ds1, p1, q1, rfl, rfl, rfl, h1, r1⟩ := trodAll_cons r0
  obtain ⟨v2, vs2, d2, ds2, p2, q2, rfl, rfl, rfl, h2, r2⟩ := trodAll_cons r1
  obtain ⟨rfl, rfl, rfl⟩ := trodAll_nil r2
  obtain rfl : args = #[v0, v1, v2] := by cases args; simp_all
  obtain ⟨rfl, rfl⟩ := trodVars_none hV
  have k0 := h0
  have lt0 : ∀ x ∈ p0, x.block < W.heap.size := by obtain ⟨m, hm⟩ := k0; exact DataW.trod_lt m _ _ _ hm
  obtain ⟨a0, rfl, _, _, wa00⟩ := open_int Tryd.underlying3 (hval 0 3 v0 rfl rfl) h0
  have wa0 := I64.of_wf wa00
  have k1 := h1
  have lt1 : ∀ x ∈ p1, x.block < W.heap.size := by obtain ⟨m, hm⟩ := k1; exact DataW.trod_lt m _ _ _ hm
  obtain ⟨a1, rfl, _, _, wa10⟩ := open_int Tryd.underlying3 (hval 1 3 v1 rfl rfl) h1
  have wa1 := I64.of_wf wa10
  have k2 := h2
  have lt2 : ∀ x ∈ p2, x.block < W.heap.size := by obtain ⟨m, hm⟩ := k2; exact DataW.trod_lt m _ _ _ hm
  obtain ⟨A2, c2, l2, rfl, hl2, hC2, wl2⟩ := Rd.row Tryd.underlying22 (by kernel_rfl) (Rd.int Tryd.underlying3) (hval 2 22 v2 rfl rfl) h2
  clear hA0 hval0
  refine (Wo.several_walk _ a0 a1 A2 c2 l2 W hs wa0 wa1 hC2 hl2).mono fun e W' ⟨he, bel⟩ => ?_
  subst he
  exact ⟨_, rfl, _, _, _, [], _, [], hW', trodAll_mk1 (shut_bool Tryd.underlying4 _), (trodAll_cons_mk (Below.trod laidOut (by kernel_rfl) (of_decide_eq_true (by kernel_rfl)) k0 bel lt0) (trodAll_cons_mk (Below.trod laidOut (by kernel_rfl) (of_decide_eq_true (by kernel_rfl)) k1 bel lt1) (trodAll_cons_mk (Below.trod laidOut (by kernel_rfl) (of_decide_eq_true (by kernel_rfl)) k2 bel lt2) trodAll_mk0))), rfl, bel.frame _, fun h => by cases h⟩
noncomputable def wH (os : Os) : World := { World.holding Tryd.prog os ⟨#[], #[], []⟩ with heap := (World.holding Tryd.prog os ⟨#[], #[], []⟩).heap.modify 11 fun o => match o with | .cells _ t f => .cells #[.iface 73 (.agg #[typeHandle Tryd.prog 25])] t f | o => o }
noncomputable def wL (os : Os) : World := (wH os).layVars Tryd.prog plainLaid
theorem wL_os (os : Os) : (wL os).os = os := (World.layVars_os _ _ _).trans rfl
theorem reads (os : Os) {H : Type} (enc : TypeId × Value → H) : ∃ places, DataW.whole enc Tryd.prog ((wL os).forCall (fun _ _ => 0) ⟨#[], #[.int .i64 0, .int .i64 0, .slice none 0 0], []⟩).memory Tryd.f8.params.toList Rows.woeSeveralSpec.vars false (#[.int .i64 0, .int .i64 0, .slice none 0 0] : Array Value).toList 8 = some ([.lit (.int .i64 0), .lit (.int .i64 0), .nil], [], places) := ⟨[], by kernel_rfl⟩
theorem plain_met (os : Os) : laidMet Tryd.prog plainLaid ((wL os).forCall (fun _ _ => 0) ⟨#[], #[.int .i64 0, .int .i64 0, .slice none 0 0], []⟩).memory :=
  laidMet_layVars (w0 := wH os) (plainLaid.map (·.1)) [] (by kernel_rfl) (by kernel_rfl) (by kernel_rfl) LaidIn.none
theorem laid_met (os : Os) : laidMetH Tryd.prog Rows.woeSeveralRow.laid ((wL os).forCall (fun _ _ => 0) ⟨#[], #[.int .i64 0, .int .i64 0, .slice none 0 0], []⟩).memory :=
  laidMetH_of_parts (show laidMet Tryd.prog plainLaid ((wL os).forCall (fun _ _ => 0) ⟨#[], #[.int .i64 0, .int .i64 0, .slice none 0 0], []⟩).memory from plain_met os) (by kernel_rfl)
set_option maxRecDepth 100000 in
theorem lifted (os : Os) (started : os.Started) (H : Type) (enc : TypeId × Value → H) (F : Stop.Interp) :
    ReturnsInHanded {} Tryd.checked os 8 .any ((OpenSpec.ofChange Rows.woeSeveralSpec).preRow enc Tryd.prog Tryd.f8 Rows.woeSeveralRow.domain false Rows.woeSeveralRow.laid) (((OpenSpec.ofChange Rows.woeSeveralSpec).at F).post enc Tryd.prog Tryd.f8 false true false false) := by
  obtain ⟨places, hx⟩ := reads os enc
  refine returnsInHanded_of_row (C := Tryd.checked) (s := OpenSpec.ofChange Rows.woeSeveralSpec) own started (by kernel_rfl) Tryd.func8
    (witness_row_atRef (enc := enc) (C := Tryd.checked) false (wL os) #[.int .i64 0, .int .i64 0, .slice none 0 0] (wL_os os) (by kernel_rfl) (by kernel_rfl) (by kernel_rfl)
      (OpenSpec.preRow_of_cond 8 hx (by kernel_rfl) (fun k hk => by cases hk) (by kernel_rfl) (laid_met os))) ?_
  intro W base args ds gs before hval hW _ _ _ hL _ _
  exact contract H enc W base args ds gs before hval hW hL
theorem said : Rows.WoeSeveralSaid :=
  OpenClaim.holds_of_cond 8 Tryd.f8 rfl rfl rfl rfl rfl rfl rfl ⟨rfl, rfl, rfl, rfl, rfl⟩ rfl rfl rfl rfl rfl (by kernel_rfl) Tryd.func8 (by kernel_rfl)
    (of_decide_eq_true (by kernel_rfl)) (by unfold Func.isWrapper; first | (rw [if_pos (by decide +kernel)]; kernel_rfl) | (rw [if_neg (by decide +kernel)]; exact ⟨rfl, rfl⟩))
    (fun os started H enc _ F => by rw [OpenClaim.pre_eq_preRow]; exact lifted os started H enc F)
theorem plain (f : FuncId) (fn : Func) (hf : Tryd.pinned.checked.prog.funcNamed "sexton/sextonlaw01.WoeSeveral" = some f) (hfn : Tryd.pinned.checked.prog.funcs[f]? = some fn) :
    true = Tryd.pinned.checked.prog.looks [] ∧ ∀ (j : Nat) t, fn.params[j]? = some t → Tryd.pinned.checked.prog.wantsStandIn t = false := by
  obtain rfl : f = 8 := Option.some.inj ((show Tryd.prog.funcNamed "sexton/sextonlaw01.WoeSeveral" = some 8 by kernel_rfl).symm.trans hf) |>.symm
  obtain rfl : fn = Tryd.f8 := (Option.some.inj (Tryd.func8.symm.trans hfn)).symm
  refine ⟨by kernel_rfl, fun j t ht => ?_⟩
  rw [Tryd.params8] at ht
  have hm := Array.mem_of_getElem? ht
  simp at hm
  have hm2 : t = 3 ∨ t = 22 := by rcases hm with rfl | rfl | rfl <;> simp
  rcases hm2 with rfl | rfl
  · exact (show Tryd.prog.wantsStandIn 3 = false by kernel_rfl)
  · exact (show Tryd.prog.wantsStandIn 22 = false by kernel_rfl)
theorem card : Rows.WoeSeveralCardSaid :=
  Claim7.holds_tied_plain_at .later [] _ _ _ _ said (fun _ h => by cases h) (by kernel_rfl) (fun _ h => by cases h) woeSeveral_row_tie rfl ⟨rfl, rfl⟩ (by kernel_rfl) rfl plain (by kernel_rfl)
end Go.Proofs.YtlednfddidpcdaaDoor.woeSeveral
namespace Go.Proofs.YtlednfddidpcdaaDoor
theorem woeSeveral_holds : Rows.WoeSeveralCardSaid := woeSeveral.card
#print axioms woeSeveral_holds
end Go.Proofs.YtlednfddidpcdaaDoor
