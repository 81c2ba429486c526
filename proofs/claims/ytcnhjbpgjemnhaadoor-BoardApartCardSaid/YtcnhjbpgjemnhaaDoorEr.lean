/- errors.Is over nil, the sentinels, and an error at places: contracts. -/
import Derived.Test.YtcnhjbpgjemnhaaDoorWWords
import Derived.Test.YtcnhjbpgjemnhaaDoorChecked
import Derived.WalkKit
import Derived.LaidEql
import Derived.Stop.Asserts
import Derived.RowKitTokens
namespace Go.Proofs.YtcnhjbpgjemnhaaDoor.X
open Go.RowKit Go.Extern.Stop Go.Stop Go.Extern Go.Proofs.YtcnhjbpgjemnhaaDoorW.PrintWords
set_option linter.unusedVariables false
set_option linter.unusedSimpArgs false

theorem er_typeOf (v : Value) (w : World) : (Extern.ReflectliteType.typeOf #[.iface 75 v]).run Tryd.prog w = .ok (.iface 65 (.agg #[.pointer (some ⟨2, 75, none⟩)])) w := by kernel_rfl
noncomputable def er_comp : Array Value → Sem Value := Extern.ReflectliteType.method fun t => do Go.Extern.Rtype.noPackHeld "Comparable" t; pure (.bool (← typeInfo t).comparable)
theorem er_comparable (w : World) : (er_comp #[.agg #[.pointer (some ⟨2, 75, none⟩)]]).run Tryd.prog w = .ok (.bool true) w := by kernel_rfl
theorem er_methodComparable (v : Value) (w : World) : (Go.method 212 65 v "Comparable").run Tryd.prog w = .ok (50, v) w := by kernel_rfl
theorem er_compS : (Tryd.prog.info? 75).map (·.comparable) = some true := by kernel_rfl
theorem er_sizeS : (Tryd.prog.info? 100).map (·.size) = some 1 := by kernel_rfl
theorem er_noIsS (v : Value) (xT : TypeId) (w : World) : (Instr.typeAssert (.iface 75 v) xT 67 true).run Tryd.prog w = .ok (.tuple #[.nilIface, .bool false]) w := run_typeAssert_lacksB Tryd.underlying67 (by kernel_rfl) (by kernel_rfl) v xT w
theorem er_noUnwrapS (v : Value) (xT : TypeId) (w : World) : (Instr.typeAssert (.iface 75 v) xT 70 true).run Tryd.prog w = .ok (.tuple #[.nilIface, .bool false]) w := run_typeAssert_lacksB Tryd.underlying70 (by kernel_rfl) (by kernel_rfl) v xT w
theorem er_noUnwrapsS (v : Value) (xT : TypeId) (w : World) : (Instr.typeAssert (.iface 75 v) xT 72 true).run Tryd.prog w = .ok (.tuple #[.nilIface, .bool false]) w := run_typeAssert_lacksB Tryd.underlying72 (by kernel_rfl) (by kernel_rfl) v xT w
theorem er_noIsW (v : Value) (xT : TypeId) (w : World) : (Instr.typeAssert (.iface 61 v) xT 67 true).run Tryd.prog w = .ok (.tuple #[.nilIface, .bool false]) w := run_typeAssert_lacksB Tryd.underlying67 (by kernel_rfl) (by kernel_rfl) v xT w
theorem er_unwrapW (v : Value) (xT : TypeId) (w : World) : (Instr.typeAssert (.iface 61 v) xT 70 true).run Tryd.prog w = .ok (.tuple #[.iface 61 v, .bool true]) w := run_typeAssert_hasB Tryd.underlying70 (by kernel_rfl) v xT w
theorem er_methodW (v : Value) (w : World) : (Go.method 212 61 v "Unwrap").run Tryd.prog w = .ok (46, v) w := by kernel_rfl

/-- A sentinel; an error at a place that wraps one. -/
abbrev Sent (a : Addr) : Value := .iface 75 (.pointer (some a))
abbrev AtPlace (g : Nat) : Value := .iface 61 (.pointer (some ⟨g, 0, none⟩))

theorem is_same (a : Addr) (w : World) : Calls Tryd.prog 20 #[Sent a, Sent a] w fun e w' => e = .returned (.bool true) ∧ w' = w := by
  obtain ⟨i, hi, hcmp⟩ := Option.map_eq_some_iff.1 er_compS
  obtain ⟨j, hj, hjs⟩ := Option.map_eq_some_iff.1 er_sizeS
  have h8 := @run_callFunc_extern Tryd.prog 28 _ Extern.ReflectliteType.typeOf Tryd.func28 (by kernel_rfl) (by kernel_rfl) (by kernel_rfl) (by kernel_rfl)
  have h32 := @run_callFunc_extern Tryd.prog 50 _ er_comp Tryd.func50 (by kernel_rfl) (by kernel_rfl) (by kernel_rfl) (by kernel_rfl)
  have tT := er_typeOf
  have cT := er_comparable
  have mR := er_methodComparable
  have heq := run_eql_iface_ptr_same (P := Tryd.prog) w a Tryd.underlying27 Tryd.underlying75 hi hcmp hj
  go_enter Tryd.func20, Tryd.ntmps20
  go_wp2
  refine wp_loop_rounds 1 ?_
  rw [rounds_succ]
  go_wp2
  go_ret
  exact ⟨rfl, rfl⟩
theorem is_nil (b : Addr) (w : World) : Calls Tryd.prog 20 #[.nilIface, Sent b] w fun e w' => e = .returned (.bool false) ∧ w' = w := by
  have hn := run_eql_iface_nil_left (P := Tryd.prog) w 75 (.pointer (some b)) Tryd.underlying27
  go_enter Tryd.func20, Tryd.ntmps20
  go_wp2
  go_ret
  exact ⟨rfl, rfl⟩
theorem is_woe (g : Nat) (b : Addr) (w : World) (h1 : w.cell? ⟨g, 1, none⟩ = some (Sent b)) : Calls Tryd.prog 20 #[AtPlace g, Sent b] w fun e w' => e = .returned (.bool true) ∧ w' = w := by
  obtain ⟨i, hi, hcmp⟩ := Option.map_eq_some_iff.1 er_compS
  obtain ⟨j, hj, hjs⟩ := Option.map_eq_some_iff.1 er_sizeS
  have hu := Tryd.underlying63
  have h8 := @run_callFunc_extern Tryd.prog 28 _ Extern.ReflectliteType.typeOf Tryd.func28 (by kernel_rfl) (by kernel_rfl) (by kernel_rfl) (by kernel_rfl)
  have h32 := @run_callFunc_extern Tryd.prog 50 _ er_comp Tryd.func50 (by kernel_rfl) (by kernel_rfl) (by kernel_rfl) (by kernel_rfl)
  have tT := er_typeOf
  have cT := er_comparable
  have mR := er_methodComparable
  have nE := er_noIsS
  have uE := er_noUnwrapS
  have vE := er_noUnwrapsS
  have nW := er_noIsW
  have uW := er_unwrapW
  have mU := er_methodW
  have heq := run_eql_iface_ptr_same (P := Tryd.prog) w b Tryd.underlying27 Tryd.underlying75 hi hcmp hj
  have hty := run_eql_iface_types (P := Tryd.prog) 61 75 (.pointer (some ⟨g, 0, none⟩)) (.pointer (some b)) Tryd.underlying27 (by decide) w
  go_enter Tryd.func20, Tryd.ntmps20
  go_wp2
  refine wp_loop_rounds 2 ?_
  rw [rounds_succ]
  go_wp2
  rw [rounds_succ]
  go_wp2
  go_ret
  exact ⟨rfl, rfl⟩
theorem at_c (n : Int) (a : Addr) (w : World) : Calls Tryd.prog 26 #[.int .i64 n, Sent a] w fun e w' => ∃ g, e = .returned (AtPlace g) ∧ w'.heap[g]? = some (.cells #[.int .i64 n, Sent a] 63 (0, 0)) ∧ Below w.heap.size w w' := by
  have hn := run_eql_iface_nil_left (P := Tryd.prog) w 75 (.pointer (some a)) Tryd.underlying27
  go_enter Tryd.func26, Tryd.ntmps26
  go_wp2
  go_ret
  exact ⟨_, rfl, blk_new _ _, below_alloc (Below.refl _ _) _⟩
end Go.Proofs.YtcnhjbpgjemnhaaDoor.X
