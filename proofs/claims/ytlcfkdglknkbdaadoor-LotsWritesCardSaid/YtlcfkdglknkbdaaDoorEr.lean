/- errors.Is over nil, the sentinels, and an error at places: contracts. -/
import Derived.Test.YtlcfkdglknkbdaaDoorWWords
import Derived.Test.YtlcfkdglknkbdaaDoorChecked
import Derived.WalkKit
import Derived.LaidEql
import Derived.Stop.Asserts
import Derived.RowKitTokens
namespace Go.Proofs.YtlcfkdglknkbdaaDoor.X
open Go.RowKit Go.Extern.Stop Go.Stop Go.Extern Go.Proofs.YtlcfkdglknkbdaaDoorW.PrintWords
set_option linter.unusedVariables false
set_option linter.unusedSimpArgs false

theorem er_typeOf (v : Value) (w : World) : (Extern.ReflectliteType.typeOf #[.iface 143 v]).run Tryd.prog w = .ok (.iface 116 (.agg #[.pointer (some ⟨1, 143, none⟩)])) w := by kernel_rfl
noncomputable def er_comp : Array Value → Sem Value := Extern.ReflectliteType.method fun t => do Go.Extern.Rtype.noPackHeld "Comparable" t; pure (.bool (← typeInfo t).comparable)
theorem er_comparable (w : World) : (er_comp #[.agg #[.pointer (some ⟨1, 143, none⟩)]]).run Tryd.prog w = .ok (.bool true) w := by kernel_rfl
theorem er_methodComparable (v : Value) (w : World) : (Go.method 291 116 v "Comparable").run Tryd.prog w = .ok (80, v) w := by kernel_rfl
theorem er_compS : (Tryd.prog.info? 143).map (·.comparable) = some true := by kernel_rfl
theorem er_sizeS : (Tryd.prog.info? 179).map (·.size) = some 1 := by kernel_rfl
theorem er_noIsS (v : Value) (xT : TypeId) (w : World) : (Instr.typeAssert (.iface 143 v) xT 118 true).run Tryd.prog w = .ok (.tuple #[.nilIface, .bool false]) w := run_typeAssert_lacksB Tryd.underlying118 (by kernel_rfl) (by kernel_rfl) v xT w
theorem er_noUnwrapS (v : Value) (xT : TypeId) (w : World) : (Instr.typeAssert (.iface 143 v) xT 121 true).run Tryd.prog w = .ok (.tuple #[.nilIface, .bool false]) w := run_typeAssert_lacksB Tryd.underlying121 (by kernel_rfl) (by kernel_rfl) v xT w
theorem er_noUnwrapsS (v : Value) (xT : TypeId) (w : World) : (Instr.typeAssert (.iface 143 v) xT 123 true).run Tryd.prog w = .ok (.tuple #[.nilIface, .bool false]) w := run_typeAssert_lacksB Tryd.underlying123 (by kernel_rfl) (by kernel_rfl) v xT w
theorem er_noIsW (v : Value) (xT : TypeId) (w : World) : (Instr.typeAssert (.iface 86 v) xT 118 true).run Tryd.prog w = .ok (.tuple #[.nilIface, .bool false]) w := run_typeAssert_lacksB Tryd.underlying118 (by kernel_rfl) (by kernel_rfl) v xT w
theorem er_unwrapW (v : Value) (xT : TypeId) (w : World) : (Instr.typeAssert (.iface 86 v) xT 121 true).run Tryd.prog w = .ok (.tuple #[.iface 86 v, .bool true]) w := run_typeAssert_hasB Tryd.underlying121 (by kernel_rfl) v xT w
theorem er_methodW (v : Value) (w : World) : (Go.method 291 86 v "Unwrap").run Tryd.prog w = .ok (74, v) w := by kernel_rfl

/-- A sentinel; an error at a place that wraps one. -/
abbrev Sent (a : Addr) : Value := .iface 143 (.pointer (some a))
abbrev AtPlace (g : Nat) : Value := .iface 86 (.pointer (some ⟨g, 0, none⟩))

theorem is_same (a : Addr) (w : World) : Calls Tryd.prog 16 #[Sent a, Sent a] w fun e w' => e = .returned (.bool true) ∧ w' = w := by
  obtain ⟨i, hi, hcmp⟩ := Option.map_eq_some_iff.1 er_compS
  obtain ⟨j, hj, hjs⟩ := Option.map_eq_some_iff.1 er_sizeS
  have h8 := @run_callFunc_extern Tryd.prog 39 _ Extern.ReflectliteType.typeOf Tryd.func39 (by kernel_rfl) (by kernel_rfl) (by kernel_rfl) (by kernel_rfl)
  have h32 := @run_callFunc_extern Tryd.prog 80 _ er_comp Tryd.func80 (by kernel_rfl) (by kernel_rfl) (by kernel_rfl) (by kernel_rfl)
  have tT := er_typeOf
  have cT := er_comparable
  have mR := er_methodComparable
  have heq := run_eql_iface_ptr_same (P := Tryd.prog) w a Tryd.underlying31 Tryd.underlying143 hi hcmp hj
  go_enter Tryd.func16, Tryd.ntmps16
  go_wp2
  refine wp_loop_rounds 1 ?_
  rw [rounds_succ]
  go_wp2
  go_ret
  exact ⟨rfl, rfl⟩
theorem is_nil (b : Addr) (w : World) : Calls Tryd.prog 16 #[.nilIface, Sent b] w fun e w' => e = .returned (.bool false) ∧ w' = w := by
  have hn := run_eql_iface_nil_left (P := Tryd.prog) w 143 (.pointer (some b)) Tryd.underlying31
  go_enter Tryd.func16, Tryd.ntmps16
  go_wp2
  go_ret
  exact ⟨rfl, rfl⟩
theorem is_woe (g : Nat) (b : Addr) (w : World) (h1 : w.cell? ⟨g, 1, none⟩ = some (Sent b)) : Calls Tryd.prog 16 #[AtPlace g, Sent b] w fun e w' => e = .returned (.bool true) ∧ w' = w := by
  obtain ⟨i, hi, hcmp⟩ := Option.map_eq_some_iff.1 er_compS
  obtain ⟨j, hj, hjs⟩ := Option.map_eq_some_iff.1 er_sizeS
  have hu := Tryd.underlying88
  have h8 := @run_callFunc_extern Tryd.prog 39 _ Extern.ReflectliteType.typeOf Tryd.func39 (by kernel_rfl) (by kernel_rfl) (by kernel_rfl) (by kernel_rfl)
  have h32 := @run_callFunc_extern Tryd.prog 80 _ er_comp Tryd.func80 (by kernel_rfl) (by kernel_rfl) (by kernel_rfl) (by kernel_rfl)
  have tT := er_typeOf
  have cT := er_comparable
  have mR := er_methodComparable
  have nE := er_noIsS
  have uE := er_noUnwrapS
  have vE := er_noUnwrapsS
  have nW := er_noIsW
  have uW := er_unwrapW
  have mU := er_methodW
  have heq := run_eql_iface_ptr_same (P := Tryd.prog) w b Tryd.underlying31 Tryd.underlying143 hi hcmp hj
  have hty := run_eql_iface_types (P := Tryd.prog) 86 143 (.pointer (some ⟨g, 0, none⟩)) (.pointer (some b)) Tryd.underlying31 (by decide) w
  go_enter Tryd.func16, Tryd.ntmps16
  go_wp2
  refine wp_loop_rounds 2 ?_
  rw [rounds_succ]
  go_wp2
  rw [rounds_succ]
  go_wp2
  go_ret
  exact ⟨rfl, rfl⟩
theorem at_c (n : Int) (a : Addr) (w : World) : Calls Tryd.prog 22 #[.int .i64 n, Sent a] w fun e w' => ∃ g, e = .returned (AtPlace g) ∧ w'.heap[g]? = some (.cells #[.int .i64 n, Sent a] 88 (0, 0)) ∧ Below w.heap.size w w' := by
  have hn := run_eql_iface_nil_left (P := Tryd.prog) w 143 (.pointer (some a)) Tryd.underlying31
  go_enter Tryd.func22, Tryd.ntmps22
  go_wp2
  go_ret
  exact ⟨_, rfl, blk_new _ _, below_alloc (Below.refl _ _) _⟩
end Go.Proofs.YtlcfkdglknkbdaaDoor.X
