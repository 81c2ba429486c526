/- errors.Is over nil, the sentinels, and an error at places: contracts. -/
import Derived.Test.YtpejloegidailaaDoorWWords
import Derived.Test.YtpejloegidailaaDoorChecked
import Derived.WalkKit
import Derived.LaidEql
import Derived.Stop.Asserts
import Derived.RowKitTokens
namespace Go.Proofs.YtpejloegidailaaDoor.X
open Go.RowKit Go.Extern.Stop Go.Stop Go.Extern Go.Proofs.YtpejloegidailaaDoorW.PrintWords
set_option linter.unusedVariables false
set_option linter.unusedSimpArgs false

theorem er_typeOf (v : Value) (w : World) : (Extern.ReflectliteType.typeOf #[.iface 90 v]).run Tryd.prog w = .ok (.iface 80 (.agg #[.pointer (some ⟨11, 90, none⟩)])) w := by kernel_rfl
noncomputable def er_comp : Array Value → Sem Value := Extern.ReflectliteType.method fun t => do Go.Extern.Rtype.noPackHeld "Comparable" t; pure (.bool (← typeInfo t).comparable)
theorem er_comparable (w : World) : (er_comp #[.agg #[.pointer (some ⟨11, 90, none⟩)]]).run Tryd.prog w = .ok (.bool true) w := by kernel_rfl
theorem er_methodComparable (v : Value) (w : World) : (Go.method 228 80 v "Comparable").run Tryd.prog w = .ok (56, v) w := by kernel_rfl
theorem er_compS : (Tryd.prog.info? 90).map (·.comparable) = some true := by kernel_rfl
theorem er_sizeS : (Tryd.prog.info? 116).map (·.size) = some 1 := by kernel_rfl
theorem er_noIsS (v : Value) (xT : TypeId) (w : World) : (Instr.typeAssert (.iface 90 v) xT 82 true).run Tryd.prog w = .ok (.tuple #[.nilIface, .bool false]) w := run_typeAssert_lacksB Tryd.underlying82 (by kernel_rfl) (by kernel_rfl) v xT w
theorem er_noUnwrapS (v : Value) (xT : TypeId) (w : World) : (Instr.typeAssert (.iface 90 v) xT 85 true).run Tryd.prog w = .ok (.tuple #[.nilIface, .bool false]) w := run_typeAssert_lacksB Tryd.underlying85 (by kernel_rfl) (by kernel_rfl) v xT w
theorem er_noUnwrapsS (v : Value) (xT : TypeId) (w : World) : (Instr.typeAssert (.iface 90 v) xT 87 true).run Tryd.prog w = .ok (.tuple #[.nilIface, .bool false]) w := run_typeAssert_lacksB Tryd.underlying87 (by kernel_rfl) (by kernel_rfl) v xT w
theorem er_noIsW (v : Value) (xT : TypeId) (w : World) : (Instr.typeAssert (.iface 75 v) xT 82 true).run Tryd.prog w = .ok (.tuple #[.nilIface, .bool false]) w := run_typeAssert_lacksB Tryd.underlying82 (by kernel_rfl) (by kernel_rfl) v xT w
theorem er_unwrapW (v : Value) (xT : TypeId) (w : World) : (Instr.typeAssert (.iface 75 v) xT 85 true).run Tryd.prog w = .ok (.tuple #[.iface 75 v, .bool true]) w := run_typeAssert_hasB Tryd.underlying85 (by kernel_rfl) v xT w
theorem er_methodW (v : Value) (w : World) : (Go.method 228 75 v "Unwrap").run Tryd.prog w = .ok (52, v) w := by kernel_rfl

/-- A sentinel; an error at a place that wraps one. -/
abbrev Sent (a : Addr) : Value := .iface 90 (.pointer (some a))
abbrev AtPlace (g : Nat) : Value := .iface 75 (.pointer (some ⟨g, 0, none⟩))

theorem is_same (a : Addr) (w : World) : Calls Tryd.prog 21 #[Sent a, Sent a] w fun e w' => e = .returned (.bool true) ∧ w' = w := by
  obtain ⟨i, hi, hcmp⟩ := Option.map_eq_some_iff.1 er_compS
  obtain ⟨j, hj, hjs⟩ := Option.map_eq_some_iff.1 er_sizeS
  have h8 := @run_callFunc_extern Tryd.prog 33 _ Extern.ReflectliteType.typeOf Tryd.func33 (by kernel_rfl) (by kernel_rfl) (by kernel_rfl) (by kernel_rfl)
  have h32 := @run_callFunc_extern Tryd.prog 56 _ er_comp Tryd.func56 (by kernel_rfl) (by kernel_rfl) (by kernel_rfl) (by kernel_rfl)
  have tT := er_typeOf
  have cT := er_comparable
  have mR := er_methodComparable
  have heq := run_eql_iface_ptr_same (P := Tryd.prog) w a Tryd.underlying26 Tryd.underlying90 hi hcmp hj
  go_enter Tryd.func21, Tryd.ntmps21
  go_wp2
  refine wp_loop_rounds 1 ?_
  rw [rounds_succ]
  go_wp2
  go_ret
  exact ⟨rfl, rfl⟩
theorem is_nil (b : Addr) (w : World) : Calls Tryd.prog 21 #[.nilIface, Sent b] w fun e w' => e = .returned (.bool false) ∧ w' = w := by
  have hn := run_eql_iface_nil_left (P := Tryd.prog) w 90 (.pointer (some b)) Tryd.underlying26
  go_enter Tryd.func21, Tryd.ntmps21
  go_wp2
  go_ret
  exact ⟨rfl, rfl⟩
theorem is_woe (g : Nat) (b : Addr) (w : World) (h1 : w.cell? ⟨g, 1, none⟩ = some (Sent b)) : Calls Tryd.prog 21 #[AtPlace g, Sent b] w fun e w' => e = .returned (.bool true) ∧ w' = w := by
  obtain ⟨i, hi, hcmp⟩ := Option.map_eq_some_iff.1 er_compS
  obtain ⟨j, hj, hjs⟩ := Option.map_eq_some_iff.1 er_sizeS
  have hu := Tryd.underlying77
  have h8 := @run_callFunc_extern Tryd.prog 33 _ Extern.ReflectliteType.typeOf Tryd.func33 (by kernel_rfl) (by kernel_rfl) (by kernel_rfl) (by kernel_rfl)
  have h32 := @run_callFunc_extern Tryd.prog 56 _ er_comp Tryd.func56 (by kernel_rfl) (by kernel_rfl) (by kernel_rfl) (by kernel_rfl)
  have tT := er_typeOf
  have cT := er_comparable
  have mR := er_methodComparable
  have nE := er_noIsS
  have uE := er_noUnwrapS
  have vE := er_noUnwrapsS
  have nW := er_noIsW
  have uW := er_unwrapW
  have mU := er_methodW
  have heq := run_eql_iface_ptr_same (P := Tryd.prog) w b Tryd.underlying26 Tryd.underlying90 hi hcmp hj
  have hty := run_eql_iface_types (P := Tryd.prog) 75 90 (.pointer (some ⟨g, 0, none⟩)) (.pointer (some b)) Tryd.underlying26 (by decide) w
  go_enter Tryd.func21, Tryd.ntmps21
  go_wp2
  refine wp_loop_rounds 2 ?_
  rw [rounds_succ]
  go_wp2
  rw [rounds_succ]
  go_wp2
  go_ret
  exact ⟨rfl, rfl⟩
theorem at_c (n : Int) (a : Addr) (w : World) : Calls Tryd.prog 25 #[.int .i64 n, Sent a] w fun e w' => ∃ g, e = .returned (AtPlace g) ∧ w'.heap[g]? = some (.cells #[.int .i64 n, Sent a] 77 (0, 0)) ∧ Below w.heap.size w w' := by
  have hn := run_eql_iface_nil_left (P := Tryd.prog) w 90 (.pointer (some a)) Tryd.underlying26
  go_enter Tryd.func25, Tryd.ntmps25
  go_wp2
  go_ret
  exact ⟨_, rfl, blk_new _ _, below_alloc (Below.refl _ _) _⟩
end Go.Proofs.YtpejloegidailaaDoor.X
