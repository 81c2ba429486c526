/- AnnalsExact: what is made of any beats, events and rows is what the document says: no condition but those the statement has. -/
import Derived.Test.YtpejloegidailaaDoorCards
import Derived.Test.YtpejloegidailaaDoorTie
import Derived.Test.YtpejloegidailaaDoorLd
import Derived.Test.YtpejloegidailaaDoorAnR
import Derived.WalkKit
import Derived.ProofKit
import Derived.OpenShut
import Derived.ShutString
import Derived.ChangeOld
import Derived.Below
import Derived.SizedLaws
import Derived.Lay
import Derived.Deep.DeepHandedRow
import Derived.Deep.DeepWitnessRowRef
import Derived.LaidLaws
import Derived.LaidSub
import Derived.LaidHandle
namespace Go.Proofs.YtpejloegidailaaDoor.annalsExact
open Go.ChangeShapes Go.WideShapes Go.ChangeAt Go.RowKit
open Go.ChangeMaps (open_string shut_string)
open Go.Proofs.YtpejloegidailaaDoorW.PrintWords Go.Proofs.YtpejloegidailaaDoor.X
set_option linter.unusedVariables false
theorem own : ownKnob Tryd.prog.godebug = none := by kernel_rfl
theorem laidOut : laidOutB Tryd.prog = true := by kernel_rfl
theorem rowT (u : TypeId) (h : Tryd.prog.typeName? 3 u = some "*errors.errorString") : u = 90 :=
  typeName_ptr_named (nm := "errors.errorString") (by rw [show "*" ++ "errors.errorString" = "*errors.errorString" by decide]; kernel_rfl) (by kernel_rfl) (by decide) u (by rw [show "*" ++ "errors.errorString" = "*errors.errorString" by decide]; exact h)
def L0 : List (String × List UInt8) := [("sexton/api.ErrArg", [97, 110, 32, 97, 114, 103, 117, 109, 101, 110, 116, 32, 116, 104, 97, 116, 32, 99, 97, 110, 39, 116, 32, 98, 101]), ("sexton/api.ErrNil", [97, 32, 110, 105, 108, 32, 116, 104, 105, 110, 103]), ("sexton/api.ErrFull", [110, 111, 32, 114, 111, 111, 109]), ("sexton/api.ErrNone", [116, 104, 101, 114, 101, 32, 105, 115, 32, 110, 111, 110, 101]), ("sexton/api.ErrState", [110, 111, 116, 32, 110, 111, 119]), ("sexton/api.ErrFreed", [97, 32, 115, 108, 111, 116, 32, 116, 104, 97, 116, 32, 105, 115, 32, 102, 114, 101, 101]), ("sexton/api.ErrStale", [97, 32, 115, 108, 111, 116, 32, 116, 104, 97, 116, 32, 105, 115, 32, 97, 110, 111, 116, 104, 101, 114, 32, 111, 110, 101, 32, 110, 111, 119]), ("sexton/api.ErrTwice", [100, 111, 110, 101, 32, 97, 108, 114, 101, 97, 100, 121]), ("sexton/api.ErrLeft", [97, 32, 102, 114, 101, 101, 32, 115, 108, 111, 116, 32, 116, 104, 97, 116, 32, 99, 97, 110, 32, 98, 101, 32, 114, 101, 97, 99, 104, 101, 100]), ("sexton/api.ErrLong", [116, 111, 111, 32, 108, 111, 110, 103]), ("sexton/api.ErrWord", [110, 111, 32, 119, 111, 114, 100])]
theorem laidGives {W : World} (hL : laidMetH Tryd.prog Rows.annalsExactRow.laid W) : ∃ aErrArg aErrNil aErrFull aErrNone aErrState aErrFreed aErrStale aErrTwice aErrLeft aErrLong aErrWord : Addr, W.cell? ⟨0, 0, none⟩ = some (Sent aErrArg) ∧ W.cell? ⟨2, 0, none⟩ = some (Sent aErrNil) ∧ W.cell? ⟨3, 0, none⟩ = some (Sent aErrFull) ∧ W.cell? ⟨4, 0, none⟩ = some (Sent aErrNone) ∧ W.cell? ⟨1, 0, none⟩ = some (Sent aErrState) ∧ W.cell? ⟨5, 0, none⟩ = some (Sent aErrFreed) ∧ W.cell? ⟨6, 0, none⟩ = some (Sent aErrStale) ∧ W.cell? ⟨7, 0, none⟩ = some (Sent aErrTwice) ∧ W.cell? ⟨8, 0, none⟩ = some (Sent aErrLeft) ∧ W.cell? ⟨9, 0, none⟩ = some (Sent aErrLong) ∧ W.cell? ⟨10, 0, none⟩ = some (Sent aErrWord) ∧ (∃ c t, W.heap[aErrArg.block]? = some (.cells c t (0, 0))) ∧ (∃ c t, W.heap[aErrNil.block]? = some (.cells c t (0, 0))) ∧ (∃ c t, W.heap[aErrFull.block]? = some (.cells c t (0, 0))) ∧ (∃ c t, W.heap[aErrNone.block]? = some (.cells c t (0, 0))) ∧ (∃ c t, W.heap[aErrState.block]? = some (.cells c t (0, 0))) ∧ (∃ c t, W.heap[aErrFreed.block]? = some (.cells c t (0, 0))) ∧ (∃ c t, W.heap[aErrStale.block]? = some (.cells c t (0, 0))) ∧ (∃ c t, W.heap[aErrTwice.block]? = some (.cells c t (0, 0))) ∧ (∃ c t, W.heap[aErrLeft.block]? = some (.cells c t (0, 0))) ∧ (∃ c t, W.heap[aErrLong.block]? = some (.cells c t (0, 0))) ∧ (∃ c t, W.heap[aErrWord.block]? = some (.cells c t (0, 0))) ∧ [aErrArg, aErrNil, aErrFull, aErrNone, aErrState, aErrFreed, aErrStale, aErrTwice, aErrLeft, aErrLong, aErrWord].Nodup := by
  have hT : ∀ x ∈ L0, ∃ g, Tryd.prog.globalNamed x.1 = some g ∧ (Tryd.prog.globals[g]?).map (·.type) = some 26 := by
    intro x hx
    simp only [L0, List.mem_cons, List.not_mem_nil, or_false] at hx
    rcases hx with rfl | rfl | rfl | rfl | rfl | rfl | rfl | rfl | rfl | rfl | rfl
    · exact ⟨0, by kernel_rfl, by kernel_rfl⟩
    · exact ⟨2, by kernel_rfl, by kernel_rfl⟩
    · exact ⟨3, by kernel_rfl, by kernel_rfl⟩
    · exact ⟨4, by kernel_rfl, by kernel_rfl⟩
    · exact ⟨1, by kernel_rfl, by kernel_rfl⟩
    · exact ⟨5, by kernel_rfl, by kernel_rfl⟩
    · exact ⟨6, by kernel_rfl, by kernel_rfl⟩
    · exact ⟨7, by kernel_rfl, by kernel_rfl⟩
    · exact ⟨8, by kernel_rfl, by kernel_rfl⟩
    · exact ⟨9, by kernel_rfl, by kernel_rfl⟩
    · exact ⟨10, by kernel_rfl, by kernel_rfl⟩
  obtain ⟨az, hn, hS⟩ := laid_sents (tp := 90) (te := 116) (ts := 9) (ti := 26) Tryd.underlying26 rowT Tryd.underlying90 Tryd.underlying116 rfl rfl Tryd.underlying9 (by kernel_rfl) (by kernel_rfl) L0 hT (show laidMet Tryd.prog (L0.map fun x => (x.1, .iface "*errors.errorString" (.ptr (.agg [.lit (.string x.2)])))) W from hL)
  match az, hS, hn with
  | [x0, x1, x2, x3, x4, x5, x6, x7, x8, x9, x10], hS, hn =>
    obtain ⟨⟨s0, c0, t0, hv0, hc0, hb0⟩, ⟨s1, c1, t1, hv1, hc1, hb1⟩, ⟨s2, c2, t2, hv2, hc2, hb2⟩, ⟨s3, c3, t3, hv3, hc3, hb3⟩, ⟨s4, c4, t4, hv4, hc4, hb4⟩, ⟨s5, c5, t5, hv5, hc5, hb5⟩, ⟨s6, c6, t6, hv6, hc6, hb6⟩, ⟨s7, c7, t7, hv7, hc7, hb7⟩, ⟨s8, c8, t8, hv8, hc8, hb8⟩, ⟨s9, c9, t9, hv9, hc9, hb9⟩, ⟨s10, c10, t10, hv10, hc10, hb10⟩, _⟩ := hS
    exact ⟨x0, x1, x2, x3, x4, x5, x6, x7, x8, x9, x10, by simpa using World.var?_cell (g := 0) (by kernel_rfl) hv0 0, by simpa using World.var?_cell (g := 2) (by kernel_rfl) hv1 0, by simpa using World.var?_cell (g := 3) (by kernel_rfl) hv2 0, by simpa using World.var?_cell (g := 4) (by kernel_rfl) hv3 0, by simpa using World.var?_cell (g := 1) (by kernel_rfl) hv4 0, by simpa using World.var?_cell (g := 5) (by kernel_rfl) hv5 0, by simpa using World.var?_cell (g := 6) (by kernel_rfl) hv6 0, by simpa using World.var?_cell (g := 7) (by kernel_rfl) hv7 0, by simpa using World.var?_cell (g := 8) (by kernel_rfl) hv8 0, by simpa using World.var?_cell (g := 9) (by kernel_rfl) hv9 0, by simpa using World.var?_cell (g := 10) (by kernel_rfl) hv10 0, ⟨_, _, hb0⟩, ⟨_, _, hb1⟩, ⟨_, _, hb2⟩, ⟨_, _, hb3⟩, ⟨_, _, hb4⟩, ⟨_, _, hb5⟩, ⟨_, _, hb6⟩, ⟨_, _, hb7⟩, ⟨_, _, hb8⟩, ⟨_, _, hb9⟩, ⟨_, _, hb10⟩, hn⟩
set_option maxRecDepth 100000 in
theorem contract (H : Type) (enc : TypeId × Value → H) (W : World) (base : Nat) (args : Array Value) (ds gs : List (DataW H)) (before : List MemPlace)
    (hval0 : ∀ (j : Nat) t v, Tryd.f7.params[j]? = some t → args[j]? = some v → Value.okWide Tryd.prog W .any base t v)
    (hW : DataW.Whole enc Tryd.prog Tryd.f7.params.toList Rows.annalsExactSpec.vars false W args.toList ds gs before) (hL : laidMetH Tryd.prog Rows.annalsExactRow.laid W) :
    Calls Tryd.prog 7 args W fun e W' => ∃ v, e = .returned v ∧ Rows.annalsExactSpec.post enc Tryd.prog Tryd.f7 false true false false W args v W' := by
  obtain ⟨aErrArg, aErrNil, aErrFull, aErrNone, aErrState, aErrFreed, aErrStale, aErrTwice, aErrLeft, aErrLong, aErrWord, hA_ErrArg, hA_ErrNil, hA_ErrFull, hA_ErrNone, hA_ErrState, hA_ErrFreed, hA_ErrStale, hA_ErrTwice, hA_ErrLeft, hA_ErrLong, hA_ErrWord, hB_ErrArg, hB_ErrNil, hB_ErrFull, hB_ErrNone, hB_ErrState, hB_ErrFreed, hB_ErrStale, hB_ErrTwice, hB_ErrLeft, hB_ErrLong, hB_ErrWord, hND⟩ := laidGives hL
  have hval : ∀ (j : Nat) t v, Tryd.f7.params[j]? = some t → args[j]? = some v → Value.okWide Tryd.prog W .any base t v := hval0
  have hW' := hW
  obtain ⟨p, q, hA0, hV, rfl, hfz, hnd⟩ := hW
  have hA : DataW.TrodAll enc Tryd.prog W 0 (fun _ => true) true Tryd.f7.params.toList args.toList ds p := hA0
  rw [Tryd.params7] at hA hval
  obtain ⟨v0, vs0, d0, ds0, p0, q0, hargs, rfl, rfl, h0, r0⟩ := trodAll_cons hA
  obtain ⟨v1, vs1, d1, ds1, p1, q1, rfl, rfl, rfl, h1, r1⟩ := trodAll_cons r0
  obtain ⟨v2, vs2, d2, ds2, p2, q2, rfl, rfl, rfl, h2, r2⟩ := trodAll_cons r1
  obtain ⟨rfl, rfl, rfl⟩ := trodAll_nil r2
  obtain rfl : args = #[v0, v1, v2] := by cases args; simp_all
  obtain ⟨rfl, rfl⟩ := trodVars_none hV
  have k0 := h0
  have lt0 : ∀ x ∈ p0, x.block < W.heap.size := by obtain ⟨m, hm⟩ := k0; exact DataW.trod_lt m _ _ _ hm
  obtain ⟨A0, c0, l0, rfl, hl0, hC0, wl0⟩ := Rd.row Tryd.underlying45 (by kernel_rfl) rd48 (hval 0 45 v0 rfl rfl) h0
  have k1 := h1
  have lt1 : ∀ x ∈ p1, x.block < W.heap.size := by obtain ⟨m, hm⟩ := k1; exact DataW.trod_lt m _ _ _ hm
  obtain ⟨A1, c1, l1, rfl, hl1, hC1, wl1⟩ := Rd.row Tryd.underlying22 (by kernel_rfl) rd44 (hval 1 22 v1 rfl rfl) h1
  have k2 := h2
  have lt2 : ∀ x ∈ p2, x.block < W.heap.size := by obtain ⟨m, hm⟩ := k2; exact DataW.trod_lt m _ _ _ hm
  obtain ⟨A2, c2, l2, rfl, hl2, hC2, wl2⟩ := Rd.row Tryd.underlying23 (by kernel_rfl) rd40 (hval 2 23 v2 rfl rfl) h2
  clear hA0 hval0
  refine (An.exact_walk _ A0 c0 l0 A1 c1 l1 A2 c2 l2 W (Wo.sents_mk W aErrArg aErrNil aErrFull aErrNone aErrState aErrFreed aErrStale aErrTwice aErrLeft aErrLong aErrWord hA_ErrArg hA_ErrNil hA_ErrFull hA_ErrNone hA_ErrState hA_ErrFreed hA_ErrStale hA_ErrTwice hA_ErrLeft hA_ErrLong hA_ErrWord  hB_ErrArg hB_ErrNil hB_ErrFull hB_ErrNone hB_ErrState hB_ErrFreed hB_ErrStale hB_ErrTwice hB_ErrLeft hB_ErrLong hB_ErrWord  hND) hC0 hl0 hC1 hl1 hC2 hl2 wl1 wl2).mono fun e W' ⟨he, bel⟩ => ?_
  subst he
  exact ⟨_, rfl, _, _, _, [], _, [], hW', trodAll_mk1 (shut_bool Tryd.underlying4 _), (trodAll_cons_mk (Below.trod laidOut (by kernel_rfl) (of_decide_eq_true (by kernel_rfl)) k0 bel lt0) (trodAll_cons_mk (Below.trod laidOut (by kernel_rfl) (of_decide_eq_true (by kernel_rfl)) k1 bel lt1) (trodAll_cons_mk (Below.trod laidOut (by kernel_rfl) (of_decide_eq_true (by kernel_rfl)) k2 bel lt2) trodAll_mk0))), rfl, bel.frame _, fun h => by cases h⟩
theorem reads (os : Os) {H : Type} (enc : TypeId × Value → H) : ∃ places, DataW.whole enc Tryd.prog ((World.laidAll Tryd.prog os Rows.annalsExactRow.laid).forCall (fun _ _ => 0) ⟨#[], #[.slice none 0 0, .slice none 0 0, .slice none 0 0], []⟩).memory Tryd.f7.params.toList Rows.annalsExactSpec.vars false (#[.slice none 0 0, .slice none 0 0, .slice none 0 0] : Array Value).toList 8 = some ([.nil, .nil, .nil], [], places) := ⟨[], by kernel_rfl⟩
theorem laid_met (os : Os) : laidMetH Tryd.prog Rows.annalsExactRow.laid ((World.laidAll Tryd.prog os Rows.annalsExactRow.laid).forCall (fun _ _ => 0) ⟨#[], #[.slice none 0 0, .slice none 0 0, .slice none 0 0], []⟩).memory :=
  (show laidMet Tryd.prog Rows.annalsExactRow.laid ((World.laidAll Tryd.prog os Rows.annalsExactRow.laid).forCall (fun _ _ => 0) ⟨#[], #[.slice none 0 0, .slice none 0 0, .slice none 0 0], []⟩).memory from laidMet_laidAll _ (by kernel_rfl) (by kernel_rfl))
set_option maxRecDepth 100000 in
theorem lifted (os : Os) (started : os.Started) (H : Type) (enc : TypeId × Value → H) (F : Stop.Interp) :
    ReturnsInHanded {} Tryd.checked os 7 .any ((OpenSpec.ofChange Rows.annalsExactSpec).preRow enc Tryd.prog Tryd.f7 Rows.annalsExactRow.domain false Rows.annalsExactRow.laid) (((OpenSpec.ofChange Rows.annalsExactSpec).at F).post enc Tryd.prog Tryd.f7 false true false false) := by
  obtain ⟨places, hx⟩ := reads os enc
  refine returnsInHanded_of_row (C := Tryd.checked) (s := OpenSpec.ofChange Rows.annalsExactSpec) own started (by kernel_rfl) Tryd.func7
    (witness_row_at (enc := enc) (C := Tryd.checked) false (World.laidAll Tryd.prog os Rows.annalsExactRow.laid) #[.slice none 0 0, .slice none 0 0, .slice none 0 0] (World.laidAll_os _ _ _) (by kernel_rfl) (by kernel_rfl) (by kernel_rfl)
      (OpenSpec.preRow_of_cond 8 hx (by kernel_rfl) (fun k hk => by cases hk) (by kernel_rfl) (laid_met os))) ?_
  intro W base args ds gs before hval hW _ _ _ hL _ _
  exact contract H enc W base args ds gs before hval hW hL
theorem said : Rows.AnnalsExactSaid :=
  OpenClaim.holds_of_cond 7 Tryd.f7 rfl rfl rfl rfl rfl rfl rfl ⟨rfl, rfl, rfl, rfl, rfl⟩ rfl rfl rfl rfl rfl (by kernel_rfl) Tryd.func7 (by kernel_rfl)
    (of_decide_eq_true (by kernel_rfl)) (by unfold Func.isWrapper; first | (rw [if_pos (by decide +kernel)]; kernel_rfl) | (rw [if_neg (by decide +kernel)]; exact ⟨rfl, rfl⟩))
    (fun os started H enc _ F => by rw [OpenClaim.pre_eq_preRow]; exact lifted os started H enc F)
theorem plain (f : FuncId) (fn : Func) (hf : Tryd.pinned.checked.prog.funcNamed "sexton/sextonlaw15.AnnalsExact" = some f) (hfn : Tryd.pinned.checked.prog.funcs[f]? = some fn) :
    true = Tryd.pinned.checked.prog.looks [] ∧ ∀ (j : Nat) t, fn.params[j]? = some t → Tryd.pinned.checked.prog.wantsStandIn t = false := by
  obtain rfl : f = 7 := Option.some.inj ((show Tryd.prog.funcNamed "sexton/sextonlaw15.AnnalsExact" = some 7 by kernel_rfl).symm.trans hf) |>.symm
  obtain rfl : fn = Tryd.f7 := (Option.some.inj (Tryd.func7.symm.trans hfn)).symm
  refine ⟨by kernel_rfl, fun j t ht => ?_⟩
  rw [Tryd.params7] at ht
  have hm := Array.mem_of_getElem? ht
  simp at hm
  have hm2 : t = 22 ∨ t = 23 ∨ t = 45 := by rcases hm with rfl | rfl | rfl <;> simp
  rcases hm2 with rfl | rfl | rfl
  · exact (show Tryd.prog.wantsStandIn 22 = false by kernel_rfl)
  · exact (show Tryd.prog.wantsStandIn 23 = false by kernel_rfl)
  · exact (show Tryd.prog.wantsStandIn 45 = false by kernel_rfl)
theorem card : Rows.AnnalsExactCardSaid :=
  Claim7.holds_tied_plain_at .later [] _ _ _ _ said (fun _ h => by cases h) (by kernel_rfl) (fun _ h => by cases h) annalsExact_row_tie rfl ⟨rfl, rfl⟩ (by kernel_rfl) rfl plain (by kernel_rfl)
end Go.Proofs.YtpejloegidailaaDoor.annalsExact
namespace Go.Proofs.YtpejloegidailaaDoor
theorem annalsExact_holds : Rows.AnnalsExactCardSaid := annalsExact.card
#print axioms annalsExact_holds
end Go.Proofs.YtpejloegidailaaDoor
