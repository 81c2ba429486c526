/- errors.Join of two; errors.Is, Code over what is joined; Place over any cause. -/
import Derived.Test.YtlednfddidpcdaaDoorWoG
import Derived.Test.YtlednfddidpcdaaDoorWInvWords
import Derived.Test.YtlednfddidpcdaaDoorWApart
import Derived.Stop.IfaceNil
namespace Go.Proofs.YtlednfddidpcdaaDoor.Wo
open Go.RowKit Go.Extern.Stop Go.Stop Go.Extern Go.Proofs.YtlednfddidpcdaaDoorW.PrintWords Go.Proofs.YtlednfddidpcdaaDoorW.PrintLast Go.Proofs.YtlednfddidpcdaaDoorW.PrintMore Go.Proofs.YtlednfddidpcdaaDoor.X
set_option linter.unusedVariables false
set_option linter.unusedSimpArgs false

abbrev Jo (j : Nat) : Value := .iface 69 (.pointer (some ⟨j, 0, none⟩))
theorem join_info : (Tryd.prog.info? 25).map (fun i => (i.zero, i.size, i.bytes)) = some (some .nilIface, 1, 16) := by kernel_rfl
theorem raw_one {T : TypeId} {x : Value} {w : World} {base : Nat} {ok : Nat → Prop} (_ : Unit) : (Kd.raw 1).M w base ok [.iface T x] [.iface T x] := ⟨rfl, rfl, fun u hu => by obtain rfl := List.mem_singleton.1 hu; rfl⟩
theorem blk_below' {b : Nat} {w w1 : World} {g : Nat} {o : Obj} (hb : Below b w w1) (hg : g < b) (h : w.heap[g]? = some o) : w1.heap[g]? = some o := (hb.block g hg).trans h
theorem join_mk (w : World) : (Instr.makeSlice 68 (.int .i64 0) (.int .i64 2)).run Tryd.prog w = .ok (.slice (some ⟨w.heap.size, 0, none⟩) 0 2) (w.alloc (.cells #[.nilIface, .nilIface] 25)) := by kernel_rfl
set_option maxRecDepth 100000 in
theorem join_2 (r0 : Nat) (T T2 : TypeId) (x x2 : Value) (w : World) (hr : w.heap[r0]? = some (.cells #[.iface T x, .iface T2 x2] 25 (0, 0))) :
    Calls Tryd.prog 23 #[.slice (some ⟨r0, 0, none⟩) 2 2] w fun e w' => ∃ j v, e = .returned (Jo j) ∧ w'.heap[j]? = some (.cells #[v] 71 (0, 0)) ∧ Sl (Kd.raw 1) w' v [[.iface T x], [.iface T2 x2]] ∧ Below w.heap.size w w' := by
  have q0 := (blk_cell hr 0).trans rfl
  have q1 := (blk_cell hr 1).trans rfl
  have hlt := blk_lt hr


  have HR := Aside0.mk hr
  clear hr
  go_enter Tryd.func23, Tryd.ntmps23
  go_wp2
  refine wp_loop_rounds 3 ?_
  rw [rounds_succ]
  go_wp2
  rw [rounds_succ]
  go_wp2
  rw [rounds_succ]
  go_wp2
  rw [join_mk w]
  have hB0 := below_alloc (Below.refl w.heap.size w) (.cells #[.nilIface, .nilIface] 25)
  have hR0 : Kd.R (Kd.raw 1) 25 (w.alloc (.cells #[.nilIface, .nilIface] 25)) w.heap.size (fun _ => True) (.slice (some ⟨w.heap.size, 0, none⟩) 0 2) [] :=
    ⟨fun _ _ => trivial, [], World.ownsRow_made (size := 1) w _ 2 (Nat.le_refl _) (by decide) rfl, Reps.none _ _⟩
  obtain ⟨w1, hw1⟩ : ∃ w1, w1 = w.alloc (.cells #[.nilIface, .nilIface] 25) := ⟨_, rfl⟩
  rw [← hw1] at hB0 hR0 ⊢
  have q0 := pw_cell_below hB0 q0
  have q1 := pw_cell_below hB0 q1
  have HB0 := Aside0.mk hB0
  clear hB0
  have HR0 := Aside0.mk hR0
  clear hR0
  clear hw1
  go_wp2
  have hJ := blk_new w1 (.cells #[.slice (some ⟨w.heap.size, 0, none⟩) 0 2] 71)
  have hB1 := below_alloc (Below.refl w1.heap.size w1) (.cells #[.slice (some ⟨w.heap.size, 0, none⟩) 0 2] 71)
  obtain ⟨w2, hw2⟩ : ∃ w2, w2 = w1.alloc (.cells #[.slice (some ⟨w.heap.size, 0, none⟩) 0 2] 71) := ⟨_, rfl⟩
  obtain ⟨j, hj⟩ : ∃ j, j = w1.heap.size := ⟨_, rfl⟩
  rw [← hw2] at hB1 hJ ⊢
  rw [← hj] at hJ ⊢
  have q0 := pw_cell_below hB1 q0
  have q1 := pw_cell_below hB1 q1
  have hjb : w.heap.size ≤ j := by rw [hj]; exact HB0.out.size
  obtain ⟨s0, hs0⟩ : ∃ s, s = Value.slice (some ⟨w.heap.size, 0, none⟩) 0 2 := ⟨_, rfl⟩
  have hR1 := Kd.R_below HR0.out hB1
  have hB2 := bel HB0.out HB0.out.size hB1
  rw [← hs0] at hJ hR1 ⊢
  have c0 := (blk_cell hJ 0).trans rfl
  have hnJ := Kd.R_ne hR1 hJ (by decide)
  have HR1 := Aside0.mk hR1
  clear hR1
  have HB2 := Aside0.mk hB2
  clear hB2
  have HJ := Aside0.mk hJ
  clear hJ
  have HNJ := Aside0.mk hnJ
  clear hnJ
  clear hw2 hj HB0 HR0 hB1 hs0
  refine wp_loop_rounds 3 ?_
  rw [rounds_succ]
  go_wp2_with ((with_reducible refine gate_builtin (b := .append) (xs := #[.tmp 38, .tmp 40]) rfl ?_); at_builtin; refine Kd.R_append (Kd.raw 1) (w0 := w) w.heap.size rfl (.tmp 38) (.tmp 40) 68 25 _ _ rfl Tryd.underlying68 join_info rfl (by decide) (by first | decide | (simp; done) | (simp; omega)) (s0) ([]) ([.iface T x]) ([.iface T x]) (fun _ => True) (fun _ => False) rfl (by first | (go_simp; done) | (go_simp; rfl)) (raw_one ()) (fun _ hk => hk.elim) (fun _ _ => trivial) HR1.out HB2.out (below_size HB2.out) (by first | decide | (simp; done) | (simp; omega)) ?_; intro v3 w3 ho hb hg hat; obtain ⟨A3, c3, rfl⟩ := Kd.R_slice ho; have hJ3 := blk_grownBy hg HNJ.out HJ.out; have k0 := (blk_cell hJ3 0).trans rfl; have f0 := frozen_of_row _ _ 0 _ _ hJ3; have HO := Aside0.mk ho; have HB3 := Aside0.mk hb; have HJ3 := Aside0.mk hJ3; have HG := Aside0.mk hg; clear ho hb hg hat hJ3)
  have hj4 : (w3.setCell ⟨j, 0, none⟩ (.slice A3 1 c3)).heap[j]? = some (.cells #[.slice A3 1 c3] 71 (0, 0)) := by
    rw [heap_setCell_same _ _ _ _ _ _ HJ3.out]; rfl
  have hr4 := R_other (by rfl) HO.out (gb_set w3 j (.slice A3 1 c3)) (fun k hk he => Kd.R_ne HO.out HJ3.out (by decide) (by rw [hk, he]))
  have hb4 := bel_grown HB3.out (gb_set w3 j (.slice A3 1 c3)) (fun k hk => by injection hk with hk; omega) HB3.out.size
  obtain ⟨w4, hw4⟩ : ∃ w4, w4 = w3.setCell ⟨j, 0, none⟩ (.slice A3 1 c3) := ⟨_, rfl⟩
  rw [← hw4] at hj4 hr4 hb4 ⊢
  obtain ⟨s1, hs1⟩ : ∃ s, s = Value.slice A3 1 c3 := ⟨_, rfl⟩
  replace hr4 : (Kd.raw 1).R 25 w4 w.heap.size (fun _ => True) (.slice A3 1 c3) [[.iface T x]] := hr4
  rw [← hs1] at hj4 hr4 ⊢
  have hrow := blk_below' hb4 hlt HR.out
  have q1 := (blk_cell hrow 1).trans rfl
  have c1 := (blk_cell hj4 0).trans rfl
  have hnJ4 := Kd.R_ne hr4 hj4 (by decide)
  clear HJ HNJ HR1 HB2 HO HB3 HJ3 HG hw4 hs1 hrow k0 f0 c0
  have HR1 := Aside0.mk hr4
  have HB2 := Aside0.mk hb4
  have HJ := Aside0.mk hj4
  have HNJ := Aside0.mk hnJ4
  clear hr4 hb4 hj4 hnJ4
  rw [rounds_succ]
  go_wp2_with ((with_reducible refine gate_builtin (b := .append) (xs := #[.tmp 38, .tmp 40]) rfl ?_); at_builtin; refine Kd.R_append (Kd.raw 1) (w0 := w) w.heap.size rfl (.tmp 38) (.tmp 40) 68 25 _ _ rfl Tryd.underlying68 join_info rfl (by decide) (by first | decide | (simp; done) | (simp; omega)) (s1) ([[.iface T x]]) ([.iface T2 x2]) ([.iface T2 x2]) (fun _ => True) (fun _ => False) rfl (by first | (go_simp; done) | (go_simp; rfl)) (raw_one ()) (fun _ hk => hk.elim) (fun _ _ => trivial) HR1.out HB2.out (below_size HB2.out) (by first | decide | (simp; done) | (simp; omega)) ?_; intro v3 w3 ho hb hg hat; obtain ⟨A3, c3, rfl⟩ := Kd.R_slice ho; have hJ3 := blk_grownBy hg HNJ.out HJ.out; have k0 := (blk_cell hJ3 0).trans rfl; have f0 := frozen_of_row _ _ 0 _ _ hJ3; have HO := Aside0.mk ho; have HB3 := Aside0.mk hb; have HJ3 := Aside0.mk hJ3; have HG := Aside0.mk hg; clear ho hb hg hat hJ3)
  have hj5 : (w3.setCell ⟨j, 0, none⟩ (.slice A3 2 c3)).heap[j]? = some (.cells #[.slice A3 2 c3] 71 (0, 0)) := by
    rw [heap_setCell_same _ _ _ _ _ _ HJ3.out]; rfl
  have hr5 := R_other (by rfl) HO.out (gb_set w3 j (.slice A3 2 c3)) (fun k hk he => Kd.R_ne HO.out HJ3.out (by decide) (by rw [hk, he]))
  have hb5 := bel_grown HB3.out (gb_set w3 j (.slice A3 2 c3)) (fun k hk => by injection hk with hk; omega) HB3.out.size
  have hS := Sl_R hr5
  clear HJ HNJ HR1 HB2 HO HB3 HJ3 HG
  have HS := Aside0.mk hS
  have HJ := Aside0.mk hj5
  have HB := Aside0.mk hb5
  clear hS hj5 hr5 hb5
  rw [rounds_succ]
  go_wp2
  go_ret
  exact ⟨_, _, rfl, HJ.out, HS.out, HB.out⟩

theorem jo_noIs (v : Value) (xT : TypeId) (w : World) : (Instr.typeAssert (.iface 69 v) xT 75 true).run Tryd.prog w = .ok (.tuple #[.nilIface, .bool false]) w := run_typeAssert_lacksB Tryd.underlying75 (by kernel_rfl) (by kernel_rfl) v xT w
theorem jo_noUnwrap (v : Value) (xT : TypeId) (w : World) : (Instr.typeAssert (.iface 69 v) xT 78 true).run Tryd.prog w = .ok (.tuple #[.nilIface, .bool false]) w := run_typeAssert_lacksB Tryd.underlying78 (by kernel_rfl) (by kernel_rfl) v xT w
theorem jo_unwraps (v : Value) (xT : TypeId) (w : World) : (Instr.typeAssert (.iface 69 v) xT 79 true).run Tryd.prog w = .ok (.tuple #[.iface 69 v, .bool true]) w := run_typeAssert_hasB Tryd.underlying79 (by kernel_rfl) v xT w
theorem jo_method (v : Value) (w : World) : (Go.method 215 69 v "Unwrap").run Tryd.prog w = .ok (54, v) w := by kernel_rfl
theorem C_raw {w : World} {A : Option Addr} {u v : Value} (h : Kd.C (Kd.raw 1) w A 2 [[u], [v]]) : ∃ ad : Addr, A = some ad ∧ w.cell? ad = some u ∧ w.cell? ⟨ad.block, ad.off + 1, none⟩ = some v := by
  obtain ⟨ad, e, hc⟩ := h.2.2 (by decide)
  obtain ⟨c, _, hr, h0⟩ := hc 0 [u] rfl
  obtain ⟨c2, _, hr2, h1⟩ := hc 1 [v] rfl
  obtain rfl : c = [u] := hr.1
  obtain rfl : c2 = [v] := hr2.1
  exact ⟨ad, e, by have := h0 0 u rfl; rwa [Nat.zero_mul, Nat.zero_add, Addr.add_zero'] at this, by have := h1 0 v rfl; rw [show (1 * (Kd.raw 1).sz + 0) = 1 from rfl] at this; simpa [Addr.add] using this⟩
theorem join_un (j : Nat) (v : Value) (w : World) (h : w.cell? ⟨j, 0, none⟩ = some v) : Calls Tryd.prog 54 #[.pointer (some ⟨j, 0, none⟩)] w fun e w' => e = .returned v ∧ w' = w := by
  go_enter Tryd.func54, Tryd.ntmps54
  go_wp2
  go_ret
  exact ⟨rfl, rfl⟩
set_option maxHeartbeats 1000000 in
set_option maxRecDepth 100000 in
theorem is_join (a : Addr) (j : Nat) (v u1 u2 : Value) (w : World) (hj : w.heap[j]? = some (.cells #[v] 71 (0, 0))) (hv : Sl (Kd.raw 1) w v [[u1], [u2]]) (b1 b2 : Bool)
    (h1 : Calls Tryd.prog 25 #[u1, Sent a, .bool true] w fun e w' => e = .returned (.bool b1) ∧ w' = w) (h2 : Calls Tryd.prog 25 #[u2, Sent a, .bool true] w fun e w' => e = .returned (.bool b2) ∧ w' = w) :
    Calls Tryd.prog 25 #[Jo j, Sent a, .bool true] w fun e w' => e = .returned (.bool (b1 || b2)) ∧ w' = w := by
  obtain ⟨A, c, rfl, _, hC⟩ := hv
  obtain ⟨ad, rfl, k1, k2⟩ := C_raw hC
  have k0 := (blk_cell hj 0).trans rfl
  have nE := jo_noIs
  have uE := jo_noUnwrap
  have vE := jo_unwraps
  have mU := jo_method
  have hu := Tryd.underlying71
  have hty := run_eql_iface_types (P := Tryd.prog) 69 55 (.pointer (some ⟨j, 0, none⟩)) (.pointer (some a)) Tryd.underlying25 (by decide) w
  have H1 := Aside0.mk h1
  clear h1
  have H2 := Aside0.mk h2
  clear h2
  have HJ := Aside0.mk hj
  clear hj
  have HC := Aside0.mk hC
  clear hC
  go_enter Tryd.func25, Tryd.ntmps25
  go_wp2
  refine wp_loop_rounds 1 ?_
  rw [rounds_succ]
  go_wp2_with fail
  refine (join_un j _ w k0).mono ?_
  rintro e w1 ⟨rfl, rfl⟩
  go_wp2
  refine wp_loop_rounds 3 ?_
  rw [rounds_succ]
  go_wp2_with fail
  refine H1.out.mono ?_
  rintro e w1 ⟨rfl, rfl⟩
  cases b1
  · go_wp2
    rw [rounds_succ]
    go_wp2_with fail
    refine H2.out.mono ?_
    rintro e w1 ⟨rfl, rfl⟩
    cases b2
    · go_wp2
      rw [rounds_succ]
      go_wp2
      go_ret
      exact ⟨rfl, rfl⟩
    · go_wp2
      go_ret
      exact ⟨rfl, rfl⟩
  · go_wp2
    go_ret
    exact ⟨rfl, rfl⟩
theorem woe_un (g : Nat) (v : Value) (P0 : Option Value) (w : World) (h : w.cell? ⟨g, 1, none⟩ = some v) : Calls Tryd.prog 22 #[.pointer (some ⟨g, 0, none⟩)] w fun e w' => e = .returned v ∧ w' = w := by
  have hu := Tryd.underlying45
  go_enter Tryd.func22, Tryd.ntmps22
  go_wp2
  go_ret
  exact ⟨rfl, rfl⟩
set_option maxHeartbeats 1000000 in
set_option maxRecDepth 100000 in
theorem is_join_at (a : Addr) (g j : Nat) (p : Int) (v u1 u2 : Value) (w : World) (hg : w.heap[g]? = some (.cells #[.int .i64 p, Jo j] 45 (0, 0))) (hj : w.heap[j]? = some (.cells #[v] 71 (0, 0))) (hv : Sl (Kd.raw 1) w v [[u1], [u2]]) (b1 b2 : Bool)
    (h1 : Calls Tryd.prog 25 #[u1, Sent a, .bool true] w fun e w' => e = .returned (.bool b1) ∧ w' = w) (h2 : Calls Tryd.prog 25 #[u2, Sent a, .bool true] w fun e w' => e = .returned (.bool b2) ∧ w' = w) :
    Calls Tryd.prog 25 #[AtPlace g, Sent a, .bool true] w fun e w' => e = .returned (.bool (b1 || b2)) ∧ w' = w := by
  obtain ⟨A, c, rfl, _, hC⟩ := hv
  obtain ⟨ad, rfl, k1, k2⟩ := C_raw hC
  have k0 := (blk_cell hj 0).trans rfl
  have g1 := (blk_cell hg 1).trans rfl
  have nW := er_noIsW
  have uW := er_unwrapW
  have mW := er_methodW
  have hw := Tryd.underlying45
  have htw := run_eql_iface_types (P := Tryd.prog) 41 55 (.pointer (some ⟨g, 0, none⟩)) (.pointer (some a)) Tryd.underlying25 (by decide) w
  have nE := jo_noIs
  have uE := jo_noUnwrap
  have vE := jo_unwraps
  have mU := jo_method
  have hu := Tryd.underlying71
  have hty := run_eql_iface_types (P := Tryd.prog) 69 55 (.pointer (some ⟨j, 0, none⟩)) (.pointer (some a)) Tryd.underlying25 (by decide) w
  have H1 := Aside0.mk h1
  clear h1
  have H2 := Aside0.mk h2
  clear h2
  have HJ := Aside0.mk hj
  clear hj
  have HC := Aside0.mk hC
  clear hC
  have HG := Aside0.mk hg
  clear hg
  go_enter Tryd.func25, Tryd.ntmps25
  go_wp2
  refine wp_loop_rounds 2 ?_
  rw [rounds_succ]
  go_wp2_with fail
  refine (woe_un g (Jo j) none w g1).mono ?_
  rintro e w1 ⟨rfl, rfl⟩
  go_wp2
  rw [rounds_succ]
  go_wp2_with fail
  refine (join_un j _ _ k0).mono ?_
  rintro e w1 ⟨rfl, rfl⟩
  go_wp2
  refine wp_loop_rounds 3 ?_
  rw [rounds_succ]
  go_wp2_with fail
  refine H1.out.mono ?_
  rintro e w1 ⟨rfl, rfl⟩
  cases b1
  · go_wp2
    rw [rounds_succ]
    go_wp2_with fail
    refine H2.out.mono ?_
    rintro e w1 ⟨rfl, rfl⟩
    cases b2
    · go_wp2
      rw [rounds_succ]
      go_wp2
      go_ret
      exact ⟨rfl, rfl⟩
    · go_wp2
      go_ret
      exact ⟨rfl, rfl⟩
  · go_wp2
    go_ret
    exact ⟨rfl, rfl⟩
theorem is_any {T : TypeId} {x : Value} {a : Addr} {b : Bool} {w : World} (h : Calls Tryd.prog 25 #[.iface T x, Sent a, .bool true] w fun e w' => e = .returned (.bool b) ∧ w' = w) :
    Calls Tryd.prog 16 #[.iface T x, Sent a] w fun e w' => e = .returned (.bool b) ∧ w' = w := by
  have h8 := @run_callFunc_extern Tryd.prog 24 _ Extern.ReflectliteType.typeOf Tryd.func24 (by kernel_rfl) (by kernel_rfl) (by kernel_rfl) (by kernel_rfl)
  have h32 := @run_callFunc_extern Tryd.prog 57 _ er_comp Tryd.func57 (by kernel_rfl) (by kernel_rfl) (by kernel_rfl) (by kernel_rfl)
  have tT := er_typeOf
  have cT := er_comparable
  have mR := er_methodComparable
  have H := Aside0.mk h
  clear h
  go_enter Tryd.func16, Tryd.ntmps16
  go_wp2_with fail
  refine H.out.mono ?_
  rintro e w1 ⟨rfl, rfl⟩
  go_wp2
  go_ret
  exact ⟨rfl, rfl⟩
set_option maxHeartbeats 2000000 in
/-- The number of an error of which errors.Is tells p: n is how many numbers it is none of. -/
theorem code_any (s : Nat → Addr) (T : TypeId) (x : Value) (p : Nat → Bool) (w : World) (hs : Sents w s) (hp : ∀ k, k < 11 → Calls Tryd.prog 16 #[.iface T x, Sent (s (k + 1))] w fun e w' => e = .returned (.bool (p k)) ∧ w' = w) (n : Nat) (hn : n < 11) (hno : ∀ k, k < n → p k = false) (hit : p n = true) (c : Int) (hc : c = (n : Int) + 1) :
    Calls Tryd.prog 12 #[.iface T x] w fun e w' => e = .returned (.int .i64 c) ∧ w' = w := by
  subst hc
  have HS := Aside0.mk hs
  clear hs
  have HP := Aside0.mk hp
  clear hp
  have HNO := Aside0.mk hno
  clear hno
  have HIT := Aside0.mk hit
  clear hit
  go_enter Tryd.func12, Tryd.ntmps12
  go_wp2
  go_loopw [6] (fun i wr => ∃ k : Nat, k ≤ n ∧ i = .int .i64 k ∧ wr = w) (fun i _ => 11 - (intOf i).toNat)
  case atStart => exact ⟨0, Nat.zero_le _, rfl, rfl⟩
  case round =>
    obtain ⟨k, hkn, rfl, rfl⟩ := hrel
    have hlt : k < 11 := by omega
    have hk1 : (k : Int) < 11 := by omega
    go_wp2_with fail
    refine (of_yes s k hlt _ rfl wr HS.out).mono ?_
    rintro e w1 ⟨rfl, rfl⟩
    go_wp2_with fail
    refine (HP.out k hlt).mono ?_
    rintro e w2 ⟨rfl, rfl⟩
    rcases Nat.lt_or_ge k n with hkn2 | hkn2
    · rw [HNO.out k hkn2]
      go_wp2
      go_roundw
      case rel => exact ⟨k + 1, by omega, by go_num, trivial⟩
      case measure => simp [intOf]; omega
    · obtain rfl : k = n := by omega
      rw [HIT.out]
      go_wp2
      go_ret
      exact ⟨rfl, rfl⟩
theorem place_at (s : Nat → Addr) (g : Nat) (p : Int) (u : Value) (w : World) (hs : Sents w s) (hg0 : w.heap[g]? = some (.cells #[.int .i64 p, u] 45 (0, 0))) :
    Calls Tryd.prog 11 #[AtPlace g] w fun e w' => e = .returned (.tuple #[.int .i64 p, .bool true]) ∧ Below w.heap.size w w' := by
  have hb0 := below_alloc (Below.refl w.heap.size w) (.cells #[.pointer none] 41)
  have hT := blk_new w (.cells #[.pointer none] 41)
  have hG := (hs.below hb0).typ
  have hg := blk_below hb0 hg0
  have H := Aside0.mk (as_woe g w.heap.size _ _ hT hG)
  have hgl := blk_lt hg
  have hgt : g ≠ w.heap.size := fun e => by subst e; rw [hg] at hT; simp at hT
  have HB0 := Aside0.mk hb0
  clear hb0
  have HG := Aside0.mk hg
  clear hg
  have HT := Aside0.mk hT
  clear hT
  clear hG hs hg0
  go_enter Tryd.func11, Tryd.ntmps11
  go_wp2_with fail
  refine H.out.mono ?_
  rintro e w1 ⟨rfl, hU⟩
  have c0 := (blk_cell hU.2 0).trans rfl
  have hg1 := (hU.1.block g hgl (fun e => hgt (by injection e))).trans HG.out
  have c1 := (blk_cell hg1 0).trans rfl
  have hB1 := bel_grown HB0.out hU.1 (fun k hk => by injection hk with hk; omega) HB0.out.size
  have HG1 := Aside0.mk hg1
  clear hg1
  have HB1 := Aside0.mk hB1
  clear hB1
  have HU := Aside0.mk hU
  clear hU
  clear hgl
  go_wp2
  go_ret2
  exact ⟨rfl, HB1.out⟩
/-- At, of any error. -/
theorem at_any (n : Int) (T : TypeId) (x : Value) (w : World) : Calls Tryd.prog 18 #[.int .i64 n, .iface T x] w fun e w' => ∃ g, e = .returned (AtPlace g) ∧ w'.heap[g]? = some (.cells #[.int .i64 n, .iface T x] 45 (0, 0)) ∧ Below w.heap.size w w' := by
  have hn := run_eql_iface_nil_left (P := Tryd.prog) w T x Tryd.underlying25
  go_enter Tryd.func18, Tryd.ntmps18
  go_wp2
  go_ret
  exact ⟨_, rfl, blk_new _ _, below_alloc (Below.refl _ _) _⟩
end Go.Proofs.YtlednfddidpcdaaDoor.Wo
