/- errors.As with a **Woe as target: contracts, second part. -/
import Derived.Test.YtlednfddidpcdaaDoorWaA
import Derived.Test.YtlednfddidpcdaaDoorX3
namespace Go.Proofs.YtlednfddidpcdaaDoor.X
open Go.RowKit Go.Extern.Stop Go.Stop Go.Extern Go.Proofs.YtlednfddidpcdaaDoorW.PrintWords
set_option linter.unusedVariables false
set_option linter.unusedSimpArgs false

/-- A pointer variable's address as errors.As takes it. -/
abbrev Tgt (tb : Nat) : Value := .iface 43 (.pointer (some ⟨tb, 0, none⟩))
theorem gb_set (w : World) (tb : Nat) (v : Value) : w.grownBy (w.setCell ⟨tb, 0, none⟩ v) (some tb) := by
  obtain ⟨s1, s2, s3, s4⟩ := setCells_same tb [v] 0 w
  simp only [World.setCells] at s1 s2 s3 s4
  exact ⟨s1, s2, s3, by rw [s4]; exact Nat.le_refl _, fun k _ hk => setCells_far [v] 0 k (fun e => hk (by rw [e]))⟩
/-- The variable has turned; new blocks may be there. -/
def Upd (w w' : World) (tb : Nat) (v : Value) : Prop := w.grownBy w' (some tb) ∧ w'.heap[tb]? = some (.cells #[v] 41 (0, 0))
set_option maxRecDepth 100000 in
theorem as_in (g tb : Nat) (a : Addr) (u : Value) (w : World) (hT : w.heap[tb]? = some (.cells #[u] 41 (0, 0))) (ha : w.cell? a = some (.pointer (some ⟨tb, 0, none⟩))) :
    Calls Tryd.prog 29 #[AtPlace g, Tgt tb, vAt 43 a 150, rty 41] w fun e w' => e = .returned (.bool true) ∧ Upd w w' tb (.pointer (some ⟨g, 0, none⟩)) := by
  have h8 := @run_callFunc_extern Tryd.prog 24 _ Extern.ReflectliteType.typeOf Tryd.func24 (by kernel_rfl) (by kernel_rfl) (by kernel_rfl) (by kernel_rfl)
  have h9 := @run_callFunc_extern Tryd.prog 56 _ wa_assign Tryd.func56 (by kernel_rfl) (by kernel_rfl) (by kernel_rfl) (by kernel_rfl)
  have h10 := @run_callFunc_extern Tryd.prog 30 _ wa_elemV Tryd.func30 (by kernel_rfl) (by kernel_rfl) (by kernel_rfl) (by kernel_rfl)
  have h11 := @run_callFunc_extern Tryd.prog 26 _ wa_unpack Tryd.func26 (by kernel_rfl) (by kernel_rfl) (by kernel_rfl) (by kernel_rfl)
  have h12 := @run_callFunc_extern Tryd.prog 31 _ wa_set Tryd.func31 (by kernel_rfl) (by kernel_rfl) (by kernel_rfl) (by kernel_rfl)
  have e1 := wa_typeOfW
  have e2 := wa_mAssign 41
  have e3 := wa_assignY
  have hlt : tb < w.heap.size := blk_lt hT
  have e4 := wa_elemTo a ⟨tb, 0, none⟩ (w.alloc (.cells #[hnd 43, .pointer (some a), .int .u64 150] 61)) (pw_cell_below (below_alloc (Below.refl _ _) _) ha)
  have e5 := wa_valueOfW (.pointer (some ⟨g, 0, none⟩)) (w.alloc (.cells #[hnd 43, .pointer (some a), .int .u64 150] 61)) rfl
  obtain ⟨w2, hw2⟩ : ∃ w2, w2 = (w.alloc (.cells #[hnd 43, .pointer (some a), .int .u64 150] 61)).alloc (.cells #[.pointer (some ⟨g, 0, none⟩)] 41) := ⟨_, rfl⟩
  have hb2 : Below w.heap.size w w2 := by rw [hw2]; exact below_alloc (below_alloc (Below.refl _ _) _) _
  have hT2 := blk_below hb2 hT
  have hn1 : (w.alloc (.cells #[hnd 43, .pointer (some a), .int .u64 150] 61)).heap.size = w.heap.size + 1 := by simp
  have hN : w2.heap[w.heap.size + 1]? = some (.cells #[.pointer (some ⟨g, 0, none⟩)] 41 (0, 0)) := by rw [hw2, ← hn1]; exact blk_new _ _
  have e6 := wa_setTo tb 0 ⟨w.heap.size + 1, 0, none⟩ (.pointer (some ⟨g, 0, none⟩)) u w2 ((blk_cell hN 0).trans rfl) ((blk_cell hT2 0).trans rfl) (blk_frozen hT2 0) rfl rfl
  rw [hn1] at e5
  have hT0 := hT
  clear hN hT2 ha hT hn1
  subst hw2
  go_enter Tryd.func29, Tryd.ntmps29
  go_wp2
  refine wp_loop_rounds 1 ?_
  rw [rounds_succ]
  go_wp2
  go_ret
  refine ⟨rfl, ((gb_set w tb _).trans (World.grownBy_alloc _ _ _)).trans (World.grownBy_alloc _ _ _), ?_⟩
  refine blk_below (below_alloc (below_alloc (Below.refl _ _) _) _) (o := .cells #[.pointer (some ⟨g, 0, none⟩)] 41 (0, 0)) ?_
  have h99 := blk_set hT0 0 (.pointer (some ⟨g, 0, none⟩))
  simpa using h99

set_option maxRecDepth 100000 in
theorem as_in_no (b : Addr) (tb : Nat) (a : Addr) (w : World) :
    Calls Tryd.prog 29 #[Sent b, Tgt tb, vAt 43 a 150, rty 41] w fun e w' => e = .returned (.bool false) ∧ Below w.heap.size w w' := by
  have h8 := @run_callFunc_extern Tryd.prog 24 _ Extern.ReflectliteType.typeOf Tryd.func24 (by kernel_rfl) (by kernel_rfl) (by kernel_rfl) (by kernel_rfl)
  have h9 := @run_callFunc_extern Tryd.prog 56 _ wa_assign Tryd.func56 (by kernel_rfl) (by kernel_rfl) (by kernel_rfl) (by kernel_rfl)
  have e1 := wa_typeOfS
  have e2 := wa_mAssign 55
  have e3 := wa_assignN
  have nE := wa_noAsS
  have uE := er_noUnwrapS
  have vE := er_noUnwrapsS
  go_enter Tryd.func29, Tryd.ntmps29
  go_wp2
  refine wp_loop_rounds 1 ?_
  rw [rounds_succ]
  go_wp2
  go_ret
  exact ⟨rfl, below_alloc (Below.refl _ _) _⟩
abbrev gT : Addr := ⟨11, 0, none⟩
theorem upd_after {w w1 w2 : World} {tb : Nat} {v : Value} (hb : Below w.heap.size w w1) (h : Upd w1 w2 tb v) (hl : w.heap.size ≤ w1.heap.size) : Upd w w2 tb v :=
  ⟨⟨h.1.os.trans hb.os, h.1.tape.trans hb.tape, h.1.output.trans hb.output, Nat.le_trans hb.size h.1.size, fun k hk hne => (h.1.block k (by omega) hne).trans (hb.block k hk)⟩, h.2⟩
set_option maxRecDepth 100000 in
theorem as_woe (g tb : Nat) (u : Value) (w : World) (hT : w.heap[tb]? = some (.cells #[u] 41 (0, 0))) (hG : w.cell? gT = some (rty 25)) :
    Calls Tryd.prog 20 #[AtPlace g, Tgt tb] w fun e w' => e = .returned (.bool true) ∧ Upd w w' tb (.pointer (some ⟨g, 0, none⟩)) := by
  have h11 := @run_callFunc_extern Tryd.prog 26 _ wa_unpack Tryd.func26 (by kernel_rfl) (by kernel_rfl) (by kernel_rfl) (by kernel_rfl)
  have h12 := @run_callFunc_extern Tryd.prog 27 _ wa_type Tryd.func27 (by kernel_rfl) (by kernel_rfl) (by kernel_rfl) (by kernel_rfl)
  have h13 := @run_callFunc_extern Tryd.prog 46 _ wa_kind Tryd.func46 (by kernel_rfl) (by kernel_rfl) (by kernel_rfl) (by kernel_rfl)
  have h14 := @run_callFunc_extern Tryd.prog 28 _ wa_isNil Tryd.func28 (by kernel_rfl) (by kernel_rfl) (by kernel_rfl) (by kernel_rfl)
  have h15 := @run_callFunc_extern Tryd.prog 58 _ wa_elemT Tryd.func58 (by kernel_rfl) (by kernel_rfl) (by kernel_rfl) (by kernel_rfl)
  have h16 := @run_callFunc_extern Tryd.prog 59 _ wa_impl Tryd.func59 (by kernel_rfl) (by kernel_rfl) (by kernel_rfl) (by kernel_rfl)
  have e5 := wa_valueOf (.pointer (some ⟨tb, 0, none⟩)) w rfl
  have e6 := wa_typeOf
  have e7 := wa_mKind 43
  have e8 := wa_kind43
  have e9 := wa_mElem 43
  have e10 := wa_elem43
  have e11 := wa_mKind 41
  have e12 := wa_kind41
  have e13 := wa_mImpl 41
  have e14 := wa_impl41
  obtain ⟨wz, hwz⟩ : ∃ wz, wz = (w.alloc (.cells #[.pointer (some ⟨tb, 0, none⟩)] 43)).alloc (.cells #[hnd 43, .pointer (some ⟨w.heap.size, 0, none⟩), .int .u64 150] 61) := ⟨_, rfl⟩
  have hbz : Below w.heap.size w wz := by rw [hwz]; exact below_alloc (below_alloc (Below.refl _ _) _) _
  have hc : wz.cell? ⟨w.heap.size, 0, none⟩ = some (.pointer (some ⟨tb, 0, none⟩)) := by
    rw [hwz]; exact (blk_cell (blk_below (below_alloc (Below.refl _ _) _) (blk_new w (.cells #[.pointer (some ⟨tb, 0, none⟩)] 43))) 0).trans rfl
  have e15 := wa_isNilV ⟨w.heap.size, 0, none⟩ ⟨tb, 0, none⟩ wz hc
  have hTz := blk_below hbz hT
  have hGz := pw_cell_below hbz hG
  have H := as_in g tb ⟨w.heap.size, 0, none⟩ u wz hTz hc
  rw [hwz] at e15 H hGz
  have HWZ := Aside0.mk hbz
  have HH := Aside0.mk H
  clear hc hTz hbz H
  subst hwz
  go_enter Tryd.func20, Tryd.ntmps20
  go_wp2_with fail
  refine HH.out.mono ?_
  rintro e w2 ⟨rfl, hU⟩
  go_wp2
  go_ret
  exact ⟨rfl, upd_after HWZ.out hU HWZ.out.size⟩
set_option maxRecDepth 100000 in
theorem as_sent (b : Addr) (tb : Nat) (w : World) (hG : w.cell? gT = some (rty 25)) :
    Calls Tryd.prog 20 #[Sent b, Tgt tb] w fun e w' => e = .returned (.bool false) ∧ Below w.heap.size w w' := by
  have h11 := @run_callFunc_extern Tryd.prog 26 _ wa_unpack Tryd.func26 (by kernel_rfl) (by kernel_rfl) (by kernel_rfl) (by kernel_rfl)
  have h12 := @run_callFunc_extern Tryd.prog 27 _ wa_type Tryd.func27 (by kernel_rfl) (by kernel_rfl) (by kernel_rfl) (by kernel_rfl)
  have h13 := @run_callFunc_extern Tryd.prog 46 _ wa_kind Tryd.func46 (by kernel_rfl) (by kernel_rfl) (by kernel_rfl) (by kernel_rfl)
  have h14 := @run_callFunc_extern Tryd.prog 28 _ wa_isNil Tryd.func28 (by kernel_rfl) (by kernel_rfl) (by kernel_rfl) (by kernel_rfl)
  have h15 := @run_callFunc_extern Tryd.prog 58 _ wa_elemT Tryd.func58 (by kernel_rfl) (by kernel_rfl) (by kernel_rfl) (by kernel_rfl)
  have h16 := @run_callFunc_extern Tryd.prog 59 _ wa_impl Tryd.func59 (by kernel_rfl) (by kernel_rfl) (by kernel_rfl) (by kernel_rfl)
  have e5 := wa_valueOf (.pointer (some ⟨tb, 0, none⟩)) w rfl
  have e6 := wa_typeOf
  have e7 := wa_mKind 43
  have e8 := wa_kind43
  have e9 := wa_mElem 43
  have e10 := wa_elem43
  have e11 := wa_mKind 41
  have e12 := wa_kind41
  have e13 := wa_mImpl 41
  have e14 := wa_impl41
  obtain ⟨wz, hwz⟩ : ∃ wz, wz = (w.alloc (.cells #[.pointer (some ⟨tb, 0, none⟩)] 43)).alloc (.cells #[hnd 43, .pointer (some ⟨w.heap.size, 0, none⟩), .int .u64 150] 61) := ⟨_, rfl⟩
  have hbz : Below w.heap.size w wz := by rw [hwz]; exact below_alloc (below_alloc (Below.refl _ _) _) _
  have hc : wz.cell? ⟨w.heap.size, 0, none⟩ = some (.pointer (some ⟨tb, 0, none⟩)) := by
    rw [hwz]; exact (blk_cell (blk_below (below_alloc (Below.refl _ _) _) (blk_new w (.cells #[.pointer (some ⟨tb, 0, none⟩)] 43))) 0).trans rfl
  have e15 := wa_isNilV ⟨w.heap.size, 0, none⟩ ⟨tb, 0, none⟩ wz hc
  have hGz := pw_cell_below hbz hG
  have H := as_in_no b tb ⟨w.heap.size, 0, none⟩ wz
  rw [hwz] at e15 H hGz
  have HWZ := Aside0.mk hbz
  have HH := Aside0.mk H
  clear hc hbz H
  subst hwz
  go_enter Tryd.func20, Tryd.ntmps20
  go_wp2_with fail
  refine HH.out.mono ?_
  rintro e w2 ⟨rfl, hU⟩
  go_wp2
  go_ret
  exact ⟨rfl, below_step HWZ.out hU⟩
theorem as_nil (t : Value) (w : World) : Calls Tryd.prog 20 #[.nilIface, t] w fun e w' => e = .returned (.bool false) ∧ w' = w := by
  go_enter Tryd.func20, Tryd.ntmps20
  go_wp2
  go_ret
  exact ⟨rfl, rfl⟩
end Go.Proofs.YtlednfddidpcdaaDoor.X
