/- errors.As with a **Woe as target: contracts. -/
import Derived.Test.YtlednfddidpcdaaDoorEr
import Derived.Test.YtlednfddidpcdaaDoorX2
namespace Go.Proofs.YtlednfddidpcdaaDoor.X
open Go.RowKit Go.Extern.Stop Go.Stop Go.Extern Go.Proofs.YtlednfddidpcdaaDoorW.PrintWords
set_option linter.unusedVariables false
set_option linter.unusedSimpArgs false

abbrev hnd (t : Nat) : Value := .pointer (some ⟨12, t, none⟩)
abbrev rty (t : Nat) : Value := .iface 73 (.agg #[hnd t])
noncomputable def wa_unpack : Array Value → Sem Value := fun args => Extern.ReflectliteValue.unpack (args.getD 0 (.tuple #[]))
noncomputable def wa_type : Array Value → Sem Value := Extern.ReflectliteValue.methodAny (Extern.ReflectliteValue.valueError "reflectlite.Value.Type" 0) fun t _ _ _ => Extern.ReflectliteType.toType t
noncomputable def wa_isNil : Array Value → Sem Value := Extern.ReflectliteValue.method (Extern.ReflectliteValue.valueError "reflectlite.Value.IsNil" 0) Extern.ReflectliteValue.isNil
noncomputable def wa_elemV : Array Value → Sem Value := Extern.ReflectliteValue.method (Extern.ReflectliteValue.valueError "reflectlite.Value.Elem" 0) Extern.ReflectliteValue.elem
noncomputable def wa_set : Array Value → Sem Value := Extern.ReflectliteValue.set
noncomputable def wa_elemT : Array Value → Sem Value := Extern.ReflectliteType.method Extern.ReflectliteType.elem
noncomputable def wa_impl : Array Value → Sem Value := Extern.ReflectliteType.relation "Implements" Extern.ReflectliteType.implements_
noncomputable def wa_assign : Array Value → Sem Value := Extern.ReflectliteType.relation "AssignableTo" Extern.ReflectliteType.assignableTo
noncomputable def wa_kind : Array Value → Sem Value := Extern.ReflectliteType.abiMethod fun t => do pure (.int .u8 (← Go.Extern.Rtype.kind t))

theorem lit0 {n : Nat} (x : Value) (p q) : (#[x] : Array Value).getLit (n := n) 0 p q = x := rfl
theorem lit20 {n : Nat} (x y : Value) (p q) : (#[x, y] : Array Value).getLit (n := n) 0 p q = x := rfl
theorem lit21 {n : Nat} (x y : Value) (p q) : (#[x, y] : Array Value).getLit (n := n) 1 p q = y := rfl
/-- A Value of a type at an address. -/
abbrev vAt (t : Nat) (a : Addr) (f : Int) : Value := .agg #[hnd t, .pointer (some a), .int .u64 f]
theorem wa_valueOf (v : Value) (w : World) (h : v.cells = #[v]) : (wa_unpack #[.iface 43 v]).run Tryd.prog w = .ok (vAt 43 ⟨w.heap.size, 0, none⟩ 150) (w.alloc (.cells #[v] 43)) := by
  have h1 : (Extern.ReflectliteValue.mk 43 ⟨w.heap.size, 0, none⟩ 0).run Tryd.prog (w.alloc (.cells #[v] 43)) = .ok (vAt 43 ⟨w.heap.size, 0, none⟩ 150) (w.alloc (.cells #[v] 43)) := by kernel_rfl
  simp [wa_unpack, Extern.ReflectliteValue.unpack, newVar, newRow, h, h1]
theorem wa_valueOfW (v : Value) (w : World) (h : v.cells = #[v]) : (wa_unpack #[.iface 41 v]).run Tryd.prog w = .ok (vAt 41 ⟨w.heap.size, 0, none⟩ 150) (w.alloc (.cells #[v] 41)) := by
  have h1 : (Extern.ReflectliteValue.mk 41 ⟨w.heap.size, 0, none⟩ 0).run Tryd.prog (w.alloc (.cells #[v] 41)) = .ok (vAt 41 ⟨w.heap.size, 0, none⟩ 150) (w.alloc (.cells #[v] 41)) := by kernel_rfl
  simp [wa_unpack, Extern.ReflectliteValue.unpack, newVar, newRow, h, h1]
theorem wa_typeOf (a : Addr) (w : World) : (wa_type #[vAt 43 a 150]).run Tryd.prog w = .ok (rty 43) w := by kernel_rfl
theorem wa_mKind (t : Nat) (w : World) : (Go.method 215 73 (.agg #[hnd t]) "Kind").run Tryd.prog w = .ok (46, hnd t) w := by kernel_rfl
theorem wa_kind43 (w : World) : (wa_kind #[hnd 43]).run Tryd.prog w = .ok (.int .u8 22) w := by kernel_rfl
theorem wa_kind41 (w : World) : (wa_kind #[hnd 41]).run Tryd.prog w = .ok (.int .u8 22) w := by kernel_rfl
theorem wa_mElem (t : Nat) (w : World) : (Go.method 215 73 (.agg #[hnd t]) "Elem").run Tryd.prog w = .ok (58, .agg #[hnd t]) w := by kernel_rfl
theorem wa_elem43 (w : World) : (wa_elemT #[.agg #[hnd 43]]).run Tryd.prog w = .ok (rty 41) w := by kernel_rfl
theorem wa_mImpl (t : Nat) (w : World) : (Go.method 215 73 (.agg #[hnd t]) "Implements").run Tryd.prog w = .ok (59, .agg #[hnd t]) w := by kernel_rfl
theorem wa_impl41 (w : World) : (wa_impl #[.agg #[hnd 41], rty 25]).run Tryd.prog w = .ok (.bool true) w := by kernel_rfl
theorem wa_mAssign (t : Nat) (w : World) : (Go.method 215 73 (.agg #[hnd t]) "AssignableTo").run Tryd.prog w = .ok (56, .agg #[hnd t]) w := by kernel_rfl
theorem wa_assignY (w : World) : (wa_assign #[.agg #[hnd 41], rty 41]).run Tryd.prog w = .ok (.bool true) w := by kernel_rfl
theorem wa_assignN (w : World) : (wa_assign #[.agg #[hnd 55], rty 41]).run Tryd.prog w = .ok (.bool false) w := by kernel_rfl
theorem wa_typeOfW (v : Value) (w : World) : (Extern.ReflectliteType.typeOf #[.iface 41 v]).run Tryd.prog w = .ok (rty 41) w := by kernel_rfl
theorem wa_typeOfS (v : Value) (w : World) : (Extern.ReflectliteType.typeOf #[.iface 55 v]).run Tryd.prog w = .ok (rty 55) w := by kernel_rfl
theorem wa_load43 (a : Addr) (v : Value) (w : World) (h : w.cell? a = some v) : (loadVar 43 a).run Tryd.prog w = .ok v w := by
  have hg : (isAgg 43).run Tryd.prog w = .ok false w := by kernel_rfl
  simp [loadVar, hg, run_load, h]
theorem wa_load41 (a : Addr) (v : Value) (w : World) (h : w.cell? a = some v) : (loadVar 41 a).run Tryd.prog w = .ok v w := by
  have hg : (isAgg 41).run Tryd.prog w = .ok false w := by kernel_rfl
  simp [loadVar, hg, run_load, h]
theorem wa_parts43 (a : Addr) (w : World) : (Extern.ReflectliteValue.parts (vAt 43 a 150)).run Tryd.prog w = .ok (some (43, a, 150)) w := by kernel_rfl
theorem wa_parts41 (a : Addr) (w : World) : (Extern.ReflectliteValue.parts (vAt 41 a 150)).run Tryd.prog w = .ok (some (41, a, 150)) w := by kernel_rfl
theorem wa_parts41s (a : Addr) (w : World) : (Extern.ReflectliteValue.parts (vAt 41 a 406)).run Tryd.prog w = .ok (some (41, a, 406)) w := by kernel_rfl
theorem wa_isNilV (a p : Addr) (w : World) (h : w.cell? a = some (.pointer (some p))) : (wa_isNil #[vAt 43 a 150]).run Tryd.prog w = .ok (.bool false) w := by
  have h1 := wa_parts43 a w
  have h2 := wa_load43 a _ w h
  show Sem.run Tryd.prog (Bind.bind _ _) w = _
  simp [lit0, Extern.ReflectliteValue.isNil, h1, h2]
theorem wa_elemTo (a p : Addr) (w : World) (h : w.cell? a = some (.pointer (some p))) : (wa_elemV #[vAt 43 a 150]).run Tryd.prog w = .ok (vAt 41 p 406) w := by
  have h1 := wa_parts43 a w
  have h2 := wa_load43 a _ w h
  have h3 : (Go.Extern.Rtype.elem? 43).run Tryd.prog w = .ok (some 41) w := by kernel_rfl
  have h4 : (Extern.ReflectliteValue.mk 41 p Extern.ReflectliteValue.flagAddr).run Tryd.prog w = .ok (vAt 41 p 406) w := by kernel_rfl
  show Sem.run Tryd.prog (Bind.bind _ _) w = _
  simp [lit0, Extern.ReflectliteValue.elem, h1, h2, h3, h4]
theorem wa_setTo (g o : Nat) (a : Addr) (v u : Value) (w : World) (h : w.cell? a = some v) (hu : w.cell? ⟨g, o, none⟩ = some u) (hf : w.frozen? ⟨g, o, none⟩ = false) (hc : v.cells = #[v]) (hv : v.oneCell' = true) : (wa_set #[vAt 41 ⟨g, o, none⟩ 406, vAt 41 a 150]).run Tryd.prog w = .ok (.tuple #[]) (w.setCell ⟨g, o, none⟩ v) := by
  have h1 := wa_parts41s ⟨g, o, none⟩ w
  have h1b := wa_parts41 a w
  have h2 := wa_load41 a _ w h
  have h3 : (Go.Extern.Rtype.directlyAssignable 41 41).run Tryd.prog w = .ok true w := by kernel_rfl
  have h4 : (sizeOf 41).run Tryd.prog w = .ok 1 w := by kernel_rfl
  have h5 := run_storeCells_cells (P := Tryd.prog) g o [v] 0 w (by simp [hu]) (by simp [hf]) (by simpa using hv)
  simp only [Nat.add_zero, World.setCells] at h5
  have h6 : (storeVar 41 ⟨g, o, none⟩ v).run Tryd.prog w = .ok () (w.setCell ⟨g, o, none⟩ v) := by
    simp [storeVar, h4, hc, h5]
  show Sem.run Tryd.prog (Bind.bind _ _) w = _
  simp [lit20, lit21, Extern.ReflectliteValue.flagAddr, h1, h1b, h2, h3, h6]
theorem wa_noAsS (v : Value) (xT : TypeId) (w : World) : (Instr.typeAssert (.iface 55 v) xT 83 true).run Tryd.prog w = .ok (.tuple #[.nilIface, .bool false]) w := run_typeAssert_lacksB Tryd.underlying83 (by kernel_rfl) (by kernel_rfl) v xT w
end Go.Proofs.YtlednfddidpcdaaDoor.X
