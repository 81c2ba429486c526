/- lots: Decode. (Partly printed by gen_dec.py.) -/
import Derived.Test.YtlcfkdglknkbdaaDoorLoB
namespace Go.Proofs.YtlcfkdglknkbdaaDoor.Lo
open Go.RowKit Go.Proofs.YtlcfkdglknkbdaaDoorW.PrintWords Go.Proofs.YtlcfkdglknkbdaaDoorW.PrintLast Go.Proofs.YtlcfkdglknkbdaaDoorW.PrintMore Go.Proofs.YtlcfkdglknkbdaaDoor.X
set_option linter.unusedVariables false
set_option linter.unusedSimpArgs false

section
variable {P : Program} {ops : Array Oper} {Q : Exit → Act → World → Prop}
/-- A store of one cell into a block, in a region that draws its order. -/
theorem blk_store_step {oi : Oper} {a : Act} {w : World} {K : Act → World → Prop} (hw : Region.wanted oi (yielded ops a.tmps) = true) (hN : oi.dst = none) (t : TypeId) (p : Tmp) (x : Operand) (hop : oi.op = .store t (.tmp p) x) {g o : Nat} {cs : Array Value} {T : TypeId} (u : Value)
    (haddr : a.tmps[p]? = some (.pointer (some ⟨g, o, none⟩))) (hx : a.eval x = u) (hu : u.cells.toList = [u]) (ht : (P.info? t).map (·.size) = some 1) (h1 : u.oneCell' = true)
    (hb : w.heap[g]? = some (.cells cs T (0, 0))) (ho : o < cs.size) (h : K a (w.setCell ⟨g, o, none⟩ u)) : if Region.wanted oi (yielded ops a.tmps) = true then Oper.wp P oi a w K Q else K (a.put none undef) w := by
  have hrun : (Instr.storeAt t (.pointer (some ⟨g, o, none⟩)) u).run P w = .ok () (w.setCell ⟨g, o, none⟩ u) :=
    run_store_run t u [u] hb hu ht (by simp; omega) (fun q hq => by obtain rfl := List.mem_singleton.1 hq; exact h1)
  refine skip_ hw hN (w1 := w.setCell ⟨g, o, none⟩ u) ?_ h
  have hev : a.eval (.tmp p) = .pointer (some ⟨g, o, none⟩) := by simp [Act.eval, Array.getD_eq_getD_getElem?, haddr]
  unfold execOp
  simp only [hop, hev, hx, Sem.run_bind, Sem.run_pure, Result.andThen_ok, hrun]
end
theorem gb_set (w : World) (tb o : Nat) (v : Value) : w.grownBy (w.setCell ⟨tb, o, none⟩ v) (some tb) := by
  obtain ⟨s1, s2, s3, s4⟩ := setCells_same tb [v] o w
  simp only [World.setCells] at s1 s2 s3 s4
  exact ⟨s1, s2, s3, by rw [s4]; exact Nat.le_refl _, fun k _ hk => setCells_far [v] o k (fun e => hk (by rw [e]))⟩
/-- The script's block. -/
def XB (w : World) (x : Nat) (st en th sl no : Int) (v5 v6 : Value) : Prop := w.heap[x]? = some (.cells #[.int .i64 st, .int .i64 en, .int .i64 th, .int .i64 sl, .int .i64 no, v5, v6] 28 (0, 0))
theorem bt_rem (s : ByteArray) (i n : Nat) (hn : 0 < n) : ∃ r : Nat, (bt s i).tmod (n : Int) = (r : Int) ∧ r < n ∧ (r : Int) = bt s i % (n : Int) := by
  have h := bt_nonneg s i
  have h1 : (bt s i).tmod (n : Int) = bt s i % (n : Int) := Int.tmod_eq_emod_of_nonneg h
  have h2 := Int.emod_nonneg (bt s i) (show (n : Int) ≠ 0 by omega)
  have h3 := Int.emod_lt_of_pos (bt s i) (show (0 : Int) < (n : Int) by omega)
  exact ⟨(bt s i % (n : Int)).toNat, by rw [h1]; omega, by omega, by omega⟩
theorem bt_mod (s : ByteArray) (i : Nat) (n : Int) (hn : 0 < n) : (bt s i).tmod n = bt s i % n ∧ 0 ≤ bt s i % n ∧ bt s i % n < n :=
  ⟨Int.tmod_eq_emod_of_nonneg (bt_nonneg s i), Int.emod_nonneg _ (by omega), Int.emod_lt_of_pos _ hn⟩
/-! ### what is decoded -/
def stOf (s : ByteArray) : Int := bt s 0 % 5 + 1
def thOf (s : ByteArray) : Int := bt s 2 % 6 + 1
def cfgOf (s : ByteArray) : S24 := ⟨stOf s, bt s 1 % 5 + 1, thOf s, bt s 3, bt s 4 % 64 + 1⟩
def cntOf (s : ByteArray) : Nat := (bt s 5 % 65).toNat
def taskAt (s : ByteArray) (i : Nat) : S37 := ⟨bt s i % thOf s, opAt (stOf s) s (i + 1)⟩
def tasks (s : ByteArray) (n : Nat) : List S37 := (List.range n).map fun k => taskAt s (6 + 4 * k)
def picks (s : ByteArray) (a n : Nat) : List Int := (List.range n).map fun k => bt s (a + k) % thOf s
def npick (s : ByteArray) : Nat := min (s.size - (6 + 4 * cntOf s)) 4096
def dec (s : ByteArray) : S28 := ⟨cfgOf s, tasks s (cntOf s), picks s (6 + 4 * cntOf s) (npick s)⟩
theorem tasks_snoc (s : ByteArray) (n : Nat) : tasks s (n + 1) = tasks s n ++ [taskAt s (6 + 4 * n)] := by simp [tasks, List.range_succ]
theorem picks_snoc (s : ByteArray) (a n : Nat) : picks s a (n + 1) = picks s a n ++ [bt s (a + n) % thOf s] := by simp [picks, List.range_succ]
theorem tasks_length (s : ByteArray) (n : Nat) : (tasks s n).length = n := by simp [tasks]
theorem picks_length (s : ByteArray) (a n : Nat) : (picks s a n).length = n := by simp [picks]
def urnAt (w : World) (u : Nat) : Nat := match w.cell? ⟨u, 1, none⟩ with
  | some (.int _ i) => i.toNat
  | _ => 0
theorem urnAt_eq {w : World} {u : Nat} {s : ByteArray} {i : Nat} (h : Urn w u s i) : urnAt w u = i := by
  have c := (blk_cell h 1).trans rfl
  unfold urnAt
  rw [c]
  simp
/-- Rows of unlike element types are apart. -/
theorem R_apart {α β : Type} {d : Kd α} {d' : Kd β} {e e' base base' : Nat} {ok ok' : Nat → Prop} {w : World} {v v' : Value} {xs : List α} {ys : List β} (hne : e ≠ e') (h : Kd.R d e w base ok v xs) (h' : Kd.R d' e' w base' ok' v' ys) (k : Nat) (hk : v.ownBlock = some k) : v'.ownBlock ≠ some k := by
  intro hk'
  obtain ⟨c, hc⟩ := Kd.R_typed h k hk
  exact Kd.R_ne h' hc (fun e => hne e.symm) hk'.symm
theorem store7 {w : World} {r : Nat} {a b c d e f g : Value} {t : TypeId} (h : w.heap[r]? = some (.cells #[a, b, c, d, e, f, g] t (0, 0))) (v0 v1 v2 v3 v4 v5 v6 : Value) :
    (((((((w.setCell ⟨r, 0, none⟩ v0).setCell ⟨r, 1, none⟩ v1).setCell ⟨r, 2, none⟩ v2).setCell ⟨r, 3, none⟩ v3).setCell ⟨r, 4, none⟩ v4).setCell ⟨r, 5, none⟩ v5).setCell ⟨r, 6, none⟩ v6).heap[r]? = some (.cells #[v0, v1, v2, v3, v4, v5, v6] t (0, 0)) := by
  have h0 := heap_setCell_same w r 0 _ t v0 h
  have h1 := heap_setCell_same _ r 1 _ t v1 h0
  have h2 := heap_setCell_same _ r 2 _ t v2 h1
  have h3 := heap_setCell_same _ r 3 _ t v3 h2
  have h4 := heap_setCell_same _ r 4 _ t v4 h3
  have h5 := heap_setCell_same _ r 5 _ t v5 h4
  have h6 := heap_setCell_same _ r 6 _ t v6 h5
  rw [h6]
  rfl
theorem gb7 (w : World) (r : Nat) (v0 v1 v2 v3 v4 v5 v6 : Value) : w.grownBy (((((((w.setCell ⟨r, 0, none⟩ v0).setCell ⟨r, 1, none⟩ v1).setCell ⟨r, 2, none⟩ v2).setCell ⟨r, 3, none⟩ v3).setCell ⟨r, 4, none⟩ v4).setCell ⟨r, 5, none⟩ v5).setCell ⟨r, 6, none⟩ v6) (some r) :=
  gu_trans (gu_trans (gu_trans (gu_trans (gu_trans (gu_trans (gb_set w r 0 v0) (gb_set _ r 1 v1)) (gb_set _ r 2 v2)) (gb_set _ r 3 v3)) (gb_set _ r 4 v4)) (gb_set _ r 5 v5)) (gb_set _ r 6 v6)
def dec10.T10 : Bool × List (List Nat × List Nat) := (true, [([], []), ([0], [0]), ([], []), ([2], [2]), ([3], [3]), ([4], [4]), ([1, 5], [1, 5]), ([6, 1, 0, 1, 2, 3, 4, 5, 6], [6])])
def dec10.B10 : List Nat := [0, 1, 0, 4, 12, 28, 63, 127]
theorem dec10.tab10 : rtab .any (opsOf Tryd.f9 10) = dec10.T10 := by kernel_rfl
theorem dec10.bits10 : waitsOk dec10.T10.2 dec10.B10 = true := by kernel_rfl
def dec11.T11 : Bool × List (List Nat × List Nat) := (true, [([], []), ([0], [0]), ([], []), ([], []), ([], []), ([4], [4]), ([5], [5]), ([6], [6]), ([3, 7], [3, 7]), ([2, 8], [2, 8]), ([9], [9]), ([1, 10, 8], [1, 10]), ([0, 1, 2, 3, 4, 5, 6, 7, 8, 9, 10, 11], []), ([12, 11, 11, 0, 1, 2, 3, 4, 5, 6, 7, 8, 9, 10, 11], [11, 12])])
def dec11.B11 : List Nat := [0, 1, 0, 0, 0, 16, 48, 112, 248, 508, 1020, 2047, 4095, 8191]
theorem dec11.tab11 : rtab .any (opsOf Tryd.f9 11) = dec11.T11 := by kernel_rfl
theorem dec11.bits11 : waitsOk dec11.T11.2 dec11.B11 = true := by kernel_rfl
def dec14.T14 : Bool × List (List Nat × List Nat) := (true, [([], []), ([0], [0]), ([], []), ([2], [2]), ([], []), ([4], [4]), ([5], [5]), ([6], [6]), ([3, 7], [3, 7]), ([8], [8]), ([1, 9, 3], [1, 9]), ([0, 1, 2, 3, 4, 5, 6, 7, 8, 9, 10], []), ([11, 10, 10, 0, 1, 2, 3, 4, 5, 6, 7, 8, 9, 10], [10, 11])])
def dec14.B14 : List Nat := [0, 1, 0, 4, 0, 16, 48, 112, 252, 508, 1023, 2047, 4095]
theorem dec14.tab14 : rtab .any (opsOf Tryd.f9 14) = dec14.T14 := by kernel_rfl
theorem dec14.bits14 : waitsOk dec14.T14.2 dec14.B14 = true := by kernel_rfl
set_option maxHeartbeats 4000000 in
set_option maxRecDepth 100000 in
theorem dec_c (s : ByteArray) (hs : s.size ≤ 40000) (w : World) :
    Calls Tryd.prog 9 #[.string s] w fun e w' => ∃ cs, e = .returned (.agg cs.toArray) ∧ k28.K w' (dec s) cs ∧ Below w.heap.size w w' := by
  obtain ⟨e0, l0, k0⟩ := bt_mod s 0 5 (by decide)
  obtain ⟨e1, l1, k1⟩ := bt_mod s 1 5 (by decide)
  obtain ⟨e2, l2, k2⟩ := bt_mod s 2 6 (by decide)
  obtain ⟨e4, l4, k4⟩ := bt_mod s 4 64 (by decide)
  obtain ⟨r5, e5, l5, m5⟩ := bt_rem s 5 65 (by decide)
  replace e5 : (bt s 5).tmod 65 = (r5 : Int) := e5
  have g3 := bt_nonneg s 3
  have g3' := bt_lt s 3
  have M5 := Aside0.mk m5
  clear m5
  go_enter Tryd.func9, Tryd.ntmps9
  have hX := blk_new w (.cells #[.int .i64 0, .int .i64 0, .int .i64 0, .int .i64 0, .int .i64 0, .slice none 0 0, .slice none 0 0] 28)
  have hb1 := below_alloc (Below.refl w.heap.size w) (.cells #[.int .i64 0, .int .i64 0, .int .i64 0, .int .i64 0, .int .i64 0, .slice none 0 0, .slice none 0 0] 28)
  have hsz : (w.alloc (.cells #[.int .i64 0, .int .i64 0, .int .i64 0, .int .i64 0, .int .i64 0, .slice none 0 0, .slice none 0 0] 28)).heap.size = w.heap.size + 1 := by unfold World.alloc; exact Array.size_push _
  go_wp2_with fail
  obtain ⟨w1, hw1⟩ : ∃ w1, w1 = w.alloc (.cells #[.int .i64 0, .int .i64 0, .int .i64 0, .int .i64 0, .int .i64 0, .slice none 0 0, .slice none 0 0] 28) := ⟨_, rfl⟩
  rw [← hw1] at hX hb1 hsz ⊢
  have hU0 := blk_new w1 (.cells #[.string s, .int .i64 0] 54)
  have hb2 := below_alloc (Below.refl w1.heap.size w1) (.cells #[.string s, .int .i64 0] 54)
  rw [hsz] at hU0
  replace hX := blk_below hX hb2
  have hB := bel hb1 hb1.size hb2
  obtain ⟨w2, hw2⟩ : ∃ w2, w2 = w1.alloc (.cells #[.string s, .int .i64 0] 54) := ⟨_, rfl⟩
  rw [← hw2] at hX hU0 hB ⊢
  have hU : Urn w2 (w.heap.size + 1) s 0 := hU0
  obtain ⟨x, hx⟩ : ∃ x, x = w.heap.size := ⟨_, rfl⟩
  obtain ⟨u, hu⟩ : ∃ u, u = w.heap.size + 1 := ⟨_, rfl⟩
  have hxw : w.heap.size ≤ x := by omega
  have huw : w.heap.size ≤ u := by omega
  have hxu : u ≠ x := by omega
  rw [← hu] at hU ⊢
  rw [← hx] at hX ⊢
  clear hw1 hw2 hb1 hb2 hsz hU0 hx hu
  have HU := Aside0.mk hU
  have HX := Aside0.mk hX
  have HB := Aside0.mk hB
  clear hU hX hB
  refine (draw_c u s 0 w2 (by omega) (by omega) HU.out).mono ?_
  rintro e w3 ⟨rfl, hU, hg⟩
  have hX := blk_grownBy hg (fun e => hxu (by injection e with e; exact e.symm)) HX.out
  have f0 := frozen_of_row _ _ 0 _ _ hX
  have c0 := (blk_cell hX 0).trans rfl
  have hB := bel_grown HB.out hg (fun k hk => by injection hk with hk; omega) HB.out.size
  clear HU HX HB
  clear hg
  have HU := Aside0.mk hU
  have HX := Aside0.mk hX
  have HB := Aside0.mk hB
  clear hU hX hB
  go_wp2_with fail
  clear f0 c0
  have hX : (w3.setCell ⟨x, 0, none⟩ (.int .i64 (bt s 0 % 5 + 1))).heap[x]? = some (.cells #[.int .i64 (bt s 0 % 5 + 1), .int .i64 0, .int .i64 0, .int .i64 0, .int .i64 0, .slice none 0 0, .slice none 0 0] 28 (0, 0)) := by rw [heap_setCell_same _ _ _ _ _ _ HX.out]; rfl
  have hU := urn_set HU.out x 0 hxu (.int .i64 (bt s 0 % 5 + 1))
  have hB := bel_grown HB.out (gb_set w3 x 0 (.int .i64 (bt s 0 % 5 + 1))) (fun k hk => by injection hk with hk; omega) HB.out.size
  obtain ⟨w2, hw2⟩ : ∃ w2, w2 = w3.setCell ⟨x, 0, none⟩ (.int .i64 (bt s 0 % 5 + 1)) := ⟨_, rfl⟩
  rw [← hw2] at hX hU hB ⊢
  clear hw2 HX HU HB
  have HU := Aside0.mk hU
  have HX := Aside0.mk hX
  have HB := Aside0.mk hB
  clear hU hX hB
  refine (draw_c u s 1 w2 (by omega) (by omega) HU.out).mono ?_
  rintro e w3 ⟨rfl, hU, hg⟩
  have hX := blk_grownBy hg (fun e => hxu (by injection e with e; exact e.symm)) HX.out
  have f0 := frozen_of_row _ _ 1 _ _ hX
  have c0 := (blk_cell hX 1).trans rfl
  have hB := bel_grown HB.out hg (fun k hk => by injection hk with hk; omega) HB.out.size
  clear HU HX HB
  clear hg
  have HU := Aside0.mk hU
  have HX := Aside0.mk hX
  have HB := Aside0.mk hB
  clear hU hX hB
  go_wp2_with fail
  clear f0 c0
  have hX : (w3.setCell ⟨x, 1, none⟩ (.int .i64 (bt s 1 % 5 + 1))).heap[x]? = some (.cells #[.int .i64 (bt s 0 % 5 + 1), .int .i64 (bt s 1 % 5 + 1), .int .i64 0, .int .i64 0, .int .i64 0, .slice none 0 0, .slice none 0 0] 28 (0, 0)) := by rw [heap_setCell_same _ _ _ _ _ _ HX.out]; rfl
  have hU := urn_set HU.out x 1 hxu (.int .i64 (bt s 1 % 5 + 1))
  have hB := bel_grown HB.out (gb_set w3 x 1 (.int .i64 (bt s 1 % 5 + 1))) (fun k hk => by injection hk with hk; omega) HB.out.size
  obtain ⟨w2, hw2⟩ : ∃ w2, w2 = w3.setCell ⟨x, 1, none⟩ (.int .i64 (bt s 1 % 5 + 1)) := ⟨_, rfl⟩
  rw [← hw2] at hX hU hB ⊢
  clear hw2 HX HU HB
  have HU := Aside0.mk hU
  have HX := Aside0.mk hX
  have HB := Aside0.mk hB
  clear hU hX hB
  refine (draw_c u s 2 w2 (by omega) (by omega) HU.out).mono ?_
  rintro e w3 ⟨rfl, hU, hg⟩
  have hX := blk_grownBy hg (fun e => hxu (by injection e with e; exact e.symm)) HX.out
  have f0 := frozen_of_row _ _ 2 _ _ hX
  have c0 := (blk_cell hX 2).trans rfl
  have hB := bel_grown HB.out hg (fun k hk => by injection hk with hk; omega) HB.out.size
  clear HU HX HB
  clear hg
  have HU := Aside0.mk hU
  have HX := Aside0.mk hX
  have HB := Aside0.mk hB
  clear hU hX hB
  go_wp2_with fail
  clear f0 c0
  have hX : (w3.setCell ⟨x, 2, none⟩ (.int .i64 (bt s 2 % 6 + 1))).heap[x]? = some (.cells #[.int .i64 (bt s 0 % 5 + 1), .int .i64 (bt s 1 % 5 + 1), .int .i64 (bt s 2 % 6 + 1), .int .i64 0, .int .i64 0, .slice none 0 0, .slice none 0 0] 28 (0, 0)) := by rw [heap_setCell_same _ _ _ _ _ _ HX.out]; rfl
  have hU := urn_set HU.out x 2 hxu (.int .i64 (bt s 2 % 6 + 1))
  have hB := bel_grown HB.out (gb_set w3 x 2 (.int .i64 (bt s 2 % 6 + 1))) (fun k hk => by injection hk with hk; omega) HB.out.size
  obtain ⟨w2, hw2⟩ : ∃ w2, w2 = w3.setCell ⟨x, 2, none⟩ (.int .i64 (bt s 2 % 6 + 1)) := ⟨_, rfl⟩
  rw [← hw2] at hX hU hB ⊢
  clear hw2 HX HU HB
  have HU := Aside0.mk hU
  have HX := Aside0.mk hX
  have HB := Aside0.mk hB
  clear hU hX hB
  refine (draw_c u s 3 w2 (by omega) (by omega) HU.out).mono ?_
  rintro e w3 ⟨rfl, hU, hg⟩
  have hX := blk_grownBy hg (fun e => hxu (by injection e with e; exact e.symm)) HX.out
  have f0 := frozen_of_row _ _ 3 _ _ hX
  have c0 := (blk_cell hX 3).trans rfl
  have hB := bel_grown HB.out hg (fun k hk => by injection hk with hk; omega) HB.out.size
  clear HU HX HB
  clear hg
  have HU := Aside0.mk hU
  have HX := Aside0.mk hX
  have HB := Aside0.mk hB
  clear hU hX hB
  go_wp2_with fail
  clear f0 c0
  have hX : (w3.setCell ⟨x, 3, none⟩ (.int .i64 (bt s 3))).heap[x]? = some (.cells #[.int .i64 (bt s 0 % 5 + 1), .int .i64 (bt s 1 % 5 + 1), .int .i64 (bt s 2 % 6 + 1), .int .i64 (bt s 3), .int .i64 0, .slice none 0 0, .slice none 0 0] 28 (0, 0)) := by rw [heap_setCell_same _ _ _ _ _ _ HX.out]; rfl
  have hU := urn_set HU.out x 3 hxu (.int .i64 (bt s 3))
  have hB := bel_grown HB.out (gb_set w3 x 3 (.int .i64 (bt s 3))) (fun k hk => by injection hk with hk; omega) HB.out.size
  obtain ⟨w2, hw2⟩ : ∃ w2, w2 = w3.setCell ⟨x, 3, none⟩ (.int .i64 (bt s 3)) := ⟨_, rfl⟩
  rw [← hw2] at hX hU hB ⊢
  clear hw2 HX HU HB
  have HU := Aside0.mk hU
  have HX := Aside0.mk hX
  have HB := Aside0.mk hB
  clear hU hX hB
  refine (draw_c u s 4 w2 (by omega) (by omega) HU.out).mono ?_
  rintro e w3 ⟨rfl, hU, hg⟩
  have hX := blk_grownBy hg (fun e => hxu (by injection e with e; exact e.symm)) HX.out
  have f0 := frozen_of_row _ _ 4 _ _ hX
  have c0 := (blk_cell hX 4).trans rfl
  have hB := bel_grown HB.out hg (fun k hk => by injection hk with hk; omega) HB.out.size
  clear HU HX HB
  clear hg
  have HU := Aside0.mk hU
  have HX := Aside0.mk hX
  have HB := Aside0.mk hB
  clear hU hX hB
  go_wp2_with fail
  clear f0 c0
  have hX : (w3.setCell ⟨x, 4, none⟩ (.int .i64 (bt s 4 % 64 + 1))).heap[x]? = some (.cells #[.int .i64 (bt s 0 % 5 + 1), .int .i64 (bt s 1 % 5 + 1), .int .i64 (bt s 2 % 6 + 1), .int .i64 (bt s 3), .int .i64 (bt s 4 % 64 + 1), .slice none 0 0, .slice none 0 0] 28 (0, 0)) := by rw [heap_setCell_same _ _ _ _ _ _ HX.out]; rfl
  have hU := urn_set HU.out x 4 hxu (.int .i64 (bt s 4 % 64 + 1))
  have hB := bel_grown HB.out (gb_set w3 x 4 (.int .i64 (bt s 4 % 64 + 1))) (fun k hk => by injection hk with hk; omega) HB.out.size
  obtain ⟨w2, hw2⟩ : ∃ w2, w2 = w3.setCell ⟨x, 4, none⟩ (.int .i64 (bt s 4 % 64 + 1)) := ⟨_, rfl⟩
  rw [← hw2] at hX hU hB ⊢
  clear hw2 HX HU HB
  have HU := Aside0.mk hU
  have HX := Aside0.mk hX
  have HB := Aside0.mk hB
  clear hU hX hB
  refine (draw_c u s 5 w2 (by omega) (by omega) HU.out).mono ?_
  rintro e w3 ⟨rfl, hU, hg⟩
  have hX := blk_grownBy hg (fun e => hxu (by injection e with e; exact e.symm)) HX.out
  have hB := bel_grown HB.out hg (fun k hk => by injection hk with hk; omega) HB.out.size
  clear HU HX HB hg
  obtain ⟨st, hst⟩ : ∃ z, z = bt s 0 % 5 + 1 := ⟨_, rfl⟩
  obtain ⟨en, hen⟩ : ∃ z, z = bt s 1 % 5 + 1 := ⟨_, rfl⟩
  obtain ⟨th, hth⟩ : ∃ z, z = bt s 2 % 6 + 1 := ⟨_, rfl⟩
  obtain ⟨sl, hsl⟩ : ∃ z, z = bt s 3 := ⟨_, rfl⟩
  obtain ⟨no, hno⟩ : ∃ z, z = bt s 4 % 64 + 1 := ⟨_, rfl⟩
  rw [← hst, ← hen, ← hth, ← hsl, ← hno] at hX
  have hst5 : 1 ≤ st ∧ st ≤ 5 := by omega
  have ht1 : 1 ≤ th := by omega
  have ht6 : th ≤ 6 := by omega
  have hcfg : cfgOf s = ⟨st, en, th, sl, no⟩ := by unfold cfgOf stOf thOf; rw [← hst, ← hen, ← hth, ← hsl, ← hno]
  have hso : stOf s = st := hst.symm
  have hto : thOf s = th := hth.symm
  have hcnt : cntOf s = r5 := by unfold cntOf; have := M5.out; omega
  have HST15 := Aside0.mk hst5
  have HT1 := Aside0.mk ht1
  have HT6 := Aside0.mk ht6
  have FU := Aside0.mk huw
  have HXW := Aside0.mk hxw
  clear hst hen hth hsl hno hst5 ht1 ht6 huw hxw l0 k0 l1 k1 l2 k2 l4 k4 g3 g3' e0 e1 e2 e4 M5
  have HCFG := Aside0.mk hcfg
  clear hcfg
  have HSO := Aside0.mk hso
  clear hso
  have HTO := Aside0.mk hto
  clear hto
  have HCNT := Aside0.mk hcnt
  clear hcnt
  have HU := Aside0.mk hU
  clear hU
  have HX := Aside0.mk hX
  clear hX
  have HB := Aside0.mk hB
  clear hB
  go_wp2
  go_loopw [46] (fun c wr => ∃ (k : Nat) (v56_ : Value), k ≤ r5 ∧ c = .int .i64 k ∧ XB wr x st en th sl no v56_ (.slice none 0 0) ∧ Kd.R k37 37 wr w.heap.size (fun _ => True) v56_ (tasks s k) ∧ Urn wr u s (6 + 4 * k) ∧ Below w.heap.size w wr) (fun c _ => r5 - (intOf c).toNat)
  case atStart => exact ⟨0, _, Nat.zero_le _, rfl, HX.out, Kd.R_nil _ _ _ _ _, HU.out, HB.out⟩
  case round =>
    clear HX HU HB
    obtain ⟨k, v56_, hk, rfl, hX, hR, hU, hB⟩ := hrel
    by_cases hlt : k < r5
    · obtain ⟨i, hi⟩ : ∃ i, i = 6 + 4 * k := ⟨_, rfl⟩
      obtain ⟨xs, hxs⟩ : ∃ xs, xs = tasks s k := ⟨_, rfl⟩
      have hxl : xs.length ≤ 64 := by rw [hxs, tasks_length]; omega
      rw [← hxs] at hR
      rw [← hi] at hU
      have htm : (bt s i).tmod th = bt s i % th := Int.tmod_eq_emod_of_nonneg (bt_nonneg s i)
      have ht3 : 0 ≤ bt s i % th := Int.emod_nonneg _ (by have := HT1.out; omega)
      have ht4 : bt s i % th < 256 := by have := Int.emod_lt_of_pos (bt s i) (show 0 < th by have := HT1.out; omega); have := HT6.out; omega
      have hil : i < 1000 := by omega
      have FX := Aside0.mk hX
      have RO56 := Aside0.mk hR
      have UA := Aside0.mk hU
      have HB := Aside0.mk hB
      clear hX hR hU hB
      have HXS := Aside0.mk hxs
      clear hxs
      have HXL := Aside0.mk hxl
      clear hxl
      have HTM := Aside0.mk htm
      clear htm
      have HT3 := Aside0.mk ht3
      clear ht3
      have HT4 := Aside0.mk ht4
      clear ht4
      have HI := Aside0.mk hi
      clear hi
      have hlk : (k : Int) < (r5 : Int) := by omega
      go_wp2
      refine start_ (n := 8) (S := fun w' => True) (ds := []) #[false, false, false, false, false, false, false, false] (by kernel_rfl) rfl rfl trivial (fun hHeld => ?_)
      refine with_tabW dec10.tab10 dec10.bits10 (fun HT_ HW_ => ?_)
      have HBr := Aside0.mk (below_drew1 HB.out)
      refine inv_at [0, 1, 2, 3, 4, 5, 6, 7] (fun a0_ b a w' => a = putSel a0_ b [(0, 48, .pointer (some ⟨u, 0, none⟩)), (1, 49, .int .i64 (bt s i)), (2, 50, .pointer (some ⟨x, 0, none⟩)), (3, 51, .pointer (some ⟨x, 0, none⟩)), (4, 52, .pointer (some ⟨x, 2, none⟩)), (5, 53, .int .i64 th), (6, 54, .int .i64 (bt s i % th)), (7, 5, .int .i64 (bt s i % th))] ∧ (Below w.heap.size w w') ∧ (XB w' x st en th sl no v56_ (.slice none 0 0)) ∧ (Kd.R k37 37 w' w.heap.size (fun _ => True) v56_ (xs)) ∧ (w.heap.size ≤ u) ∧ (b 1 = false → Urn w' u s i) ∧ (b 1 = true → Urn w' u s (i + 1))) HT_.out HW_.out (by kernel_rfl) (by kernel_rfl) ?_ ?_ ?_
      · exact ⟨by simp only [putSel, Bool.false_eq_true, if_false], HBr.out, FX.out, RO56.out, FU.out, fun _ => UA.out, fun h_ => absurd h_ (by decide)⟩
      · skip
        clear FU FX HBr RO56 UA
        refine steps_cons ?_ ?_
        · rintro b a w' ⟨ha, Q_HBr, Q_FX, Q_RO56, Q_FU, Q_UA, Q_UB⟩ hb_ hon hoff
          refine ⟨_, rfl, fun K hK => ?_⟩
          have e3 : a.tmps[3]? = some (.pointer (some ⟨u, 0, none⟩)) := by rw [ha]; exact (putSel_off rfl).trans rfl
          replace ha := Aside0.mk ha
          have HBr := Aside0.mk Q_HBr
          have FX := Aside0.mk Q_FX
          have RO56 := Aside0.mk Q_RO56
          have FU := Aside0.mk Q_FU
          have UA := Aside0.mk (Q_UA (hoff 1 (by kernel_rfl)))
          refine value_ (w1 := w') (v := .pointer (some ⟨u, 0, none⟩)) ?cA ?cB ?_ ?_
          case cA => rfl
          case cB => rfl
          · go_simp
            (try simp only [i64_w])
            try rfl
          refine hK.out _ _ ⟨(by rw [ha.out]; exact putSel_upk 0 hb_ rfl rfl rfl), Q_HBr, Q_FX, Q_RO56, Q_FU, Q_UA, fun h0_ => absurd ((hoff 1 (by kernel_rfl)).symm.trans h0_) (by decide)⟩
        refine steps_cons ?_ ?_
        · rintro b a w' ⟨ha, Q_HBr, Q_FX, Q_RO56, Q_FU, Q_UA, Q_UB⟩ hb_ hon hoff
          refine ⟨_, rfl, fun K hK => ?_⟩
          have e48 : a.tmps[48]? = some (.pointer (some ⟨u, 0, none⟩)) := by rw [ha]; exact putSel_on (e := (0, 48, .pointer (some ⟨u, 0, none⟩))) 0 rfl rfl (hon 0 (by kernel_rfl)) rfl
          replace ha := Aside0.mk ha
          have HBr := Aside0.mk Q_HBr
          have FX := Aside0.mk Q_FX
          have RO56 := Aside0.mk Q_RO56
          have FU := Aside0.mk Q_FU
          have UA := Aside0.mk (Q_UA hb_)
          refine goes_ Tryd.func20 (by kernel_rfl) rfl #[.pointer (some ⟨u, 0, none⟩)] (by rfl) rfl rfl (by first | (simp only [List.map_toArray, List.map_cons, List.map_nil, Act.eval, Array.getD_eq_getD_getElem?, Option.getD_some, e48]; done) | (simp only [List.map_toArray, List.map_cons, List.map_nil, Act.eval, Array.getD_eq_getD_getElem?, Option.getD_some, e48]; rfl)) ?_
          refine (draw_c u s i _ (by omega) (by omega) UA.out).mono ?_
          rintro e w1 ⟨rfl, hU1, hg⟩
          refine ⟨_, rfl, ?_⟩
          refine hK.out _ _ ⟨(by rw [ha.out]; exact putSel_upk 1 hb_ rfl rfl rfl), bel_grown HBr.out hg (fun k_ hk_ => by injection hk_ with hk_; rw [← hk_]; exact FU.out) HBr.out.size, blk_grownBy hg (fun e => hxu (by injection e with e; exact e.symm)) FX.out, R_other rfl RO56.out hg (fun k_ hk_ e_ => Kd.R_ne RO56.out UA.out (by decide) (e_.symm.trans hk_.symm)), FU.out, fun h0_ => absurd ((up_self b 1).symm.trans h0_) (by decide), fun _ => hU1⟩
        refine steps_cons ?_ ?_
        · rintro b a w' ⟨ha, Q_HBr, Q_FX, Q_RO56, Q_FU, Q_UA, Q_UB⟩ hb_ hon hoff
          refine ⟨_, rfl, fun K hK => ?_⟩
          have e4 : a.tmps[4]? = some (.pointer (some ⟨x, 0, none⟩)) := by rw [ha]; exact (putSel_off rfl).trans rfl
          replace ha := Aside0.mk ha
          have HBr := Aside0.mk Q_HBr
          have FX := Aside0.mk Q_FX
          have RO56 := Aside0.mk Q_RO56
          have FU := Aside0.mk Q_FU
          refine value_ (w1 := w') (v := .pointer (some ⟨x, 0, none⟩)) ?cA ?cB ?_ ?_
          case cA => rfl
          case cB => rfl
          · go_simp
            (try simp only [i64_w])
            try rfl
          refine hK.out _ _ ⟨(by rw [ha.out]; exact putSel_upk 2 hb_ rfl rfl rfl), Q_HBr, Q_FX, Q_RO56, Q_FU, Q_UA, Q_UB⟩
        refine steps_cons ?_ ?_
        · rintro b a w' ⟨ha, Q_HBr, Q_FX, Q_RO56, Q_FU, Q_UA, Q_UB⟩ hb_ hon hoff
          refine ⟨_, rfl, fun K hK => ?_⟩
          have e50 : a.tmps[50]? = some (.pointer (some ⟨x, 0, none⟩)) := by rw [ha]; exact putSel_on (e := (2, 50, .pointer (some ⟨x, 0, none⟩))) 2 rfl rfl (hon 2 (by kernel_rfl)) rfl
          replace ha := Aside0.mk ha
          have HBr := Aside0.mk Q_HBr
          have FX := Aside0.mk Q_FX
          have RO56 := Aside0.mk Q_RO56
          have FU := Aside0.mk Q_FU
          refine value_ (w1 := w') (v := .pointer (some ⟨x, 0, none⟩)) ?cA ?cB ?_ ?_
          case cA => rfl
          case cB => rfl
          · go_simp
            (try simp only [i64_w])
            try rfl
          refine hK.out _ _ ⟨(by rw [ha.out]; exact putSel_upk 3 hb_ rfl rfl rfl), Q_HBr, Q_FX, Q_RO56, Q_FU, Q_UA, Q_UB⟩
        refine steps_cons ?_ ?_
        · rintro b a w' ⟨ha, Q_HBr, Q_FX, Q_RO56, Q_FU, Q_UA, Q_UB⟩ hb_ hon hoff
          refine ⟨_, rfl, fun K hK => ?_⟩
          have e51 : a.tmps[51]? = some (.pointer (some ⟨x, 0, none⟩)) := by rw [ha]; exact putSel_on (e := (3, 51, .pointer (some ⟨x, 0, none⟩))) 3 rfl rfl (hon 3 (by kernel_rfl)) rfl
          replace ha := Aside0.mk ha
          have HBr := Aside0.mk Q_HBr
          have FX := Aside0.mk Q_FX
          have RO56 := Aside0.mk Q_RO56
          have FU := Aside0.mk Q_FU
          refine value_ (w1 := w') (v := .pointer (some ⟨x, 2, none⟩)) ?cA ?cB ?_ ?_
          case cA => rfl
          case cB => rfl
          · go_simp
            (try simp only [i64_w])
            try rfl
          refine hK.out _ _ ⟨(by rw [ha.out]; exact putSel_upk 4 hb_ rfl rfl rfl), Q_HBr, Q_FX, Q_RO56, Q_FU, Q_UA, Q_UB⟩
        refine steps_cons ?_ ?_
        · rintro b a w' ⟨ha, Q_HBr, Q_FX, Q_RO56, Q_FU, Q_UA, Q_UB⟩ hb_ hon hoff
          refine ⟨_, rfl, fun K hK => ?_⟩
          have e52 : a.tmps[52]? = some (.pointer (some ⟨x, 2, none⟩)) := by rw [ha]; exact putSel_on (e := (4, 52, .pointer (some ⟨x, 2, none⟩))) 4 rfl rfl (hon 4 (by kernel_rfl)) rfl
          replace ha := Aside0.mk ha
          have HBr := Aside0.mk Q_HBr
          have FX := Aside0.mk Q_FX
          have RO56 := Aside0.mk Q_RO56
          have FU := Aside0.mk Q_FU
          have z2_ : w'.cell? ⟨x, 2, none⟩ = some (.int .i64 th) := (blk_cell (FX.out) 2).trans rfl
          refine value_ (w1 := w') (v := .int .i64 th) ?cA ?cB ?_ ?_
          case cA => rfl
          case cB => rfl
          · go_simp
            (try simp only [i64_w])
            try rfl
          refine hK.out _ _ ⟨(by rw [ha.out]; exact putSel_upk 5 hb_ rfl rfl rfl), Q_HBr, Q_FX, Q_RO56, Q_FU, Q_UA, Q_UB⟩
        refine steps_cons ?_ ?_
        · rintro b a w' ⟨ha, Q_HBr, Q_FX, Q_RO56, Q_FU, Q_UA, Q_UB⟩ hb_ hon hoff
          refine ⟨_, rfl, fun K hK => ?_⟩
          have e49 : a.tmps[49]? = some (.int .i64 (bt s i)) := by rw [ha]; exact putSel_on (e := (1, 49, .int .i64 (bt s i))) 1 rfl rfl (hon 1 (by kernel_rfl)) rfl
          have e53 : a.tmps[53]? = some (.int .i64 th) := by rw [ha]; exact putSel_on (e := (5, 53, .int .i64 th)) 5 rfl rfl (hon 5 (by kernel_rfl)) rfl
          replace ha := Aside0.mk ha
          have HBr := Aside0.mk Q_HBr
          have FX := Aside0.mk Q_FX
          have RO56 := Aside0.mk Q_RO56
          have FU := Aside0.mk Q_FU
          have UB := Aside0.mk (Q_UB (hon 1 (by kernel_rfl)))
          have z1_ : (bt s i).tmod th = bt s i % th := HTM.out
          have z2_ : 1 ≤ th := HT1.out
          have z3_ : ¬ th = 0 := by have := HT1.out; omega
          have z4_ : 0 ≤ bt s i := bt_nonneg s i
          have z5_ : bt s i < 256 := bt_lt s i
          have z6_ : 0 ≤ bt s i % th := HT3.out
          have z7_ : bt s i % th < 256 := HT4.out
          refine value_ (w1 := w') (v := .int .i64 (bt s i % th)) ?cA ?cB ?_ ?_
          case cA => rfl
          case cB => rfl
          · go_simp
            (try simp only [i64_w])
            try rfl
          refine hK.out _ _ ⟨(by rw [ha.out]; exact putSel_upk 6 hb_ rfl rfl rfl), Q_HBr, Q_FX, Q_RO56, Q_FU, fun h0_ => absurd ((hon 1 (by kernel_rfl)).symm.trans h0_) (by decide), Q_UB⟩
        refine steps_cons ?_ ?_
        · rintro b a w' ⟨ha, Q_HBr, Q_FX, Q_RO56, Q_FU, Q_UA, Q_UB⟩ hb_ hon hoff
          refine ⟨_, rfl, fun K hK => ?_⟩
          have e54 : a.tmps[54]? = some (.int .i64 (bt s i % th)) := by rw [ha]; exact putSel_on (e := (6, 54, .int .i64 (bt s i % th))) 6 rfl rfl (hon 6 (by kernel_rfl)) rfl
          replace ha := Aside0.mk ha
          have HBr := Aside0.mk Q_HBr
          have FX := Aside0.mk Q_FX
          have RO56 := Aside0.mk Q_RO56
          have FU := Aside0.mk Q_FU
          have UB := Aside0.mk (Q_UB (hon 1 (by kernel_rfl)))
          refine value_ (w1 := w') (v := .int .i64 (bt s i % th)) ?cA ?cB ?_ ?_
          case cA => rfl
          case cB => rfl
          · go_simp
            (try simp only [i64_w])
            try rfl
          refine hK.out _ _ ⟨(by rw [ha.out]; exact putSel_upk 7 hb_ rfl rfl rfl), Q_HBr, Q_FX, Q_RO56, Q_FU, fun h0_ => absurd ((hon 1 (by kernel_rfl)).symm.trans h0_) (by decide), Q_UB⟩
        exact steps_nil
      rintro b a w' hall ⟨ha, Q_HBr, Q_FX, Q_RO56, Q_FU, Q_UA, Q_UB⟩
      clear FU FX HBr RO56 UA
      have hb0_ := hall 0 (by kernel_rfl)
      have hb1_ := hall 1 (by kernel_rfl)
      have hb2_ := hall 2 (by kernel_rfl)
      have hb3_ := hall 3 (by kernel_rfl)
      have hb4_ := hall 4 (by kernel_rfl)
      have hb5_ := hall 5 (by kernel_rfl)
      have hb6_ := hall 6 (by kernel_rfl)
      have hb7_ := hall 7 (by kernel_rfl)
      subst ha
      simp only [putSel, hb0_, hb1_, hb2_, hb3_, hb4_, hb5_, hb6_, hb7_, if_true, Act.put, List.setIfInBounds_toArray, List.set_cons_zero, List.set_cons_succ]
      have HBr := Aside0.mk Q_HBr
      clear Q_HBr
      have FX := Aside0.mk Q_FX
      clear Q_FX
      have RO56 := Aside0.mk Q_RO56
      clear Q_RO56
      have FU := Aside0.mk Q_FU
      clear Q_FU
      clear Q_UA
      have UB := Aside0.mk (Q_UB hb1_)
      clear Q_UB
      clear hall hb0_ hb1_ hb2_ hb3_ hb4_ hb5_ hb6_ hb7_
      go_wp2
      replace HB := HBr
      have UA := UB
      clear HBr UB hHeld
      refine start_ (n := 14) (S := fun w' => True) (ds := []) #[false, false, false, false, false, false, false, false, false, false, false, false, false, false] (by kernel_rfl) rfl rfl trivial (fun hHeld => ?_)
      refine with_tabW dec11.tab11 dec11.bits11 (fun HT_ HW_ => ?_)
      have HBr := Aside0.mk (below_drew1 HB.out)
      refine inv_at [0, 1, 2, 3, 4, 5, 6, 7, 8, 9, 10, 11, 12, 13] (fun a0_ b a w' => ∃ (g65_ : Nat) (v66_ : Value) (m10_ : Value), a = putSel a0_ b [(0, 55, .pointer (some ⟨x, 5, none⟩)), (1, 56, v56_), (2, 57, .int .i64 (bt s i % th)), (3, 58, .pointer (some ⟨u, 0, none⟩)), (4, 59, .pointer (some ⟨x, 0, none⟩)), (5, 60, .pointer (some ⟨x, 0, none⟩)), (6, 61, .pointer (some ⟨x, 0, none⟩)), (7, 62, .int .i64 st), (8, 63, .agg #[.int .i64 (opAt st s (i + 1)).f0, .int .i64 (opAt st s (i + 1)).f1, .int .i64 (opAt st s (i + 1)).f2, .int .i64 (opAt st s (i + 1)).f3]), (9, 64, .agg #[.int .i64 (bt s i % th), .int .i64 (opAt st s (i + 1)).f0, .int .i64 (opAt st s (i + 1)).f1, .int .i64 (opAt st s (i + 1)).f2, .int .i64 (opAt st s (i + 1)).f3]), (10, 65, m10_), (11, 66, v66_), (12, 67, .pointer (some ⟨x, 5, none⟩))] ∧ (Below w.heap.size w w') ∧ (b 13 = false → XB w' x st en th sl no v56_ (.slice none 0 0)) ∧ (b 11 = false → Kd.R k37 37 w' w.heap.size (fun _ => True) v56_ (xs)) ∧ (w.heap.size ≤ u) ∧ (b 8 = false → Urn w' u s (i + 1)) ∧ (b 13 = true → XB w' x st en th sl no v66_ (.slice none 0 0)) ∧ (b 8 = true → Urn w' u s (i + 1 + 3)) ∧ (b 10 = true → w'.heap[g65_]? = some (.cells #[.int .i64 (bt s i % th), .int .i64 (opAt st s (i + 1)).f0, .int .i64 (opAt st s (i + 1)).f1, .int .i64 (opAt st s (i + 1)).f2, .int .i64 (opAt st s (i + 1)).f3] 37 (0, 0))) ∧ (b 11 = true → Kd.R k37 37 w' w.heap.size (fun _ => True) v66_ (xs ++ [⟨bt s i % th, opAt st s (i + 1)⟩])) ∧ (b 10 = true → b 11 = false → some g65_ ≠ v56_.ownBlock) ∧ (b 10 = true → (m10_ : Value) = .slice (some ⟨g65_, 0, none⟩) 1 1)) HT_.out HW_.out (by kernel_rfl) (by kernel_rfl) ?_ ?_ ?_
      · exact ⟨0, .bool false, .bool false, by simp only [putSel, Bool.false_eq_true, if_false], HBr.out, fun _ => FX.out, fun _ => RO56.out, FU.out, fun _ => UA.out, fun h_ => absurd h_ (by decide), fun h_ => absurd h_ (by decide), fun h_ => absurd h_ (by decide), fun h_ => absurd h_ (by decide), fun h_ => absurd h_ (by decide), fun h_ => absurd h_ (by decide)⟩
      · skip
        clear FU FX HBr RO56 UA
        refine steps_cons ?_ ?_
        · rintro b a w' ⟨g65_, v66_, m10_, ha, Q_HBr, Q_FX, Q_RO56, Q_FU, Q_UA, Q_FXN, Q_UB, Q_BL65, Q_RO66, Q_NE56_65, Q_X10_⟩ hb_ hon hoff
          refine ⟨_, rfl, fun K hK => ?_⟩
          have e2 : a.tmps[2]? = some (.pointer (some ⟨x, 0, none⟩)) := by rw [ha]; exact (putSel_off rfl).trans rfl
          replace ha := Aside0.mk ha
          have HBr := Aside0.mk Q_HBr
          have FX := Aside0.mk (Q_FX (hoff 13 (by kernel_rfl)))
          have RO56 := Aside0.mk (Q_RO56 (hoff 11 (by kernel_rfl)))
          have FU := Aside0.mk Q_FU
          refine value_ (w1 := w') (v := .pointer (some ⟨x, 5, none⟩)) ?cA ?cB ?_ ?_
          case cA => rfl
          case cB => rfl
          · go_simp
            (try simp only [i64_w])
            try rfl
          refine hK.out _ _ ⟨g65_, v66_, m10_, (by rw [ha.out]; exact putSel_upk 0 hb_ rfl rfl rfl), Q_HBr, Q_FX, Q_RO56, Q_FU, Q_UA, fun h0_ => absurd ((hoff 13 (by kernel_rfl)).symm.trans h0_) (by decide), Q_UB, Q_BL65, fun h0_ => absurd ((hoff 11 (by kernel_rfl)).symm.trans h0_) (by decide), Q_NE56_65, Q_X10_⟩
        refine steps_cons ?_ ?_
        · rintro b a w' ⟨g65_, v66_, m10_, ha, Q_HBr, Q_FX, Q_RO56, Q_FU, Q_UA, Q_FXN, Q_UB, Q_BL65, Q_RO66, Q_NE56_65, Q_X10_⟩ hb_ hon hoff
          refine ⟨_, rfl, fun K hK => ?_⟩
          have e55 : a.tmps[55]? = some (.pointer (some ⟨x, 5, none⟩)) := by rw [ha]; exact putSel_on (e := (0, 55, .pointer (some ⟨x, 5, none⟩))) 0 rfl rfl (hon 0 (by kernel_rfl)) rfl
          replace ha := Aside0.mk ha
          have HBr := Aside0.mk Q_HBr
          have FX := Aside0.mk (Q_FX (hoff 13 (by kernel_rfl)))
          have RO56 := Aside0.mk (Q_RO56 (hoff 11 (by kernel_rfl)))
          have FU := Aside0.mk Q_FU
          have z5_ : w'.cell? ⟨x, 5, none⟩ = some (v56_) := (blk_cell (FX.out) 5).trans rfl
          refine value_ (w1 := w') (v := v56_) ?cA ?cB ?_ ?_
          case cA => rfl
          case cB => rfl
          · go_simp
            (try simp only [i64_w])
            try rfl
          refine hK.out _ _ ⟨g65_, v66_, m10_, (by rw [ha.out]; exact putSel_upk 1 hb_ rfl rfl rfl), Q_HBr, Q_FX, Q_RO56, Q_FU, Q_UA, fun h0_ => absurd ((hoff 13 (by kernel_rfl)).symm.trans h0_) (by decide), Q_UB, Q_BL65, fun h0_ => absurd ((hoff 11 (by kernel_rfl)).symm.trans h0_) (by decide), Q_NE56_65, Q_X10_⟩
        refine steps_cons ?_ ?_
        · rintro b a w' ⟨g65_, v66_, m10_, ha, Q_HBr, Q_FX, Q_RO56, Q_FU, Q_UA, Q_FXN, Q_UB, Q_BL65, Q_RO66, Q_NE56_65, Q_X10_⟩ hb_ hon hoff
          refine ⟨_, rfl, fun K hK => ?_⟩
          have e5 : a.tmps[5]? = some (.int .i64 (bt s i % th)) := by rw [ha]; exact (putSel_off rfl).trans rfl
          replace ha := Aside0.mk ha
          have HBr := Aside0.mk Q_HBr
          have FX := Aside0.mk (Q_FX (hoff 13 (by kernel_rfl)))
          have RO56 := Aside0.mk (Q_RO56 (hoff 11 (by kernel_rfl)))
          have FU := Aside0.mk Q_FU
          refine value_ (w1 := w') (v := .int .i64 (bt s i % th)) ?cA ?cB ?_ ?_
          case cA => rfl
          case cB => rfl
          · go_simp
            (try simp only [i64_w])
            try rfl
          refine hK.out _ _ ⟨g65_, v66_, m10_, (by rw [ha.out]; exact putSel_upk 2 hb_ rfl rfl rfl), Q_HBr, Q_FX, Q_RO56, Q_FU, Q_UA, fun h0_ => absurd ((hoff 13 (by kernel_rfl)).symm.trans h0_) (by decide), Q_UB, fun h0_ => absurd ((hoff 10 (by kernel_rfl)).symm.trans h0_) (by decide), fun h0_ => absurd ((hoff 11 (by kernel_rfl)).symm.trans h0_) (by decide), fun h0_ _ => absurd ((hoff 10 (by kernel_rfl)).symm.trans h0_) (by decide), fun h0_ => absurd ((hoff 10 (by kernel_rfl)).symm.trans h0_) (by decide)⟩
        refine steps_cons ?_ ?_
        · rintro b a w' ⟨g65_, v66_, m10_, ha, Q_HBr, Q_FX, Q_RO56, Q_FU, Q_UA, Q_FXN, Q_UB, Q_BL65, Q_RO66, Q_NE56_65, Q_X10_⟩ hb_ hon hoff
          refine ⟨_, rfl, fun K hK => ?_⟩
          have e3 : a.tmps[3]? = some (.pointer (some ⟨u, 0, none⟩)) := by rw [ha]; exact (putSel_off rfl).trans rfl
          replace ha := Aside0.mk ha
          have HBr := Aside0.mk Q_HBr
          have FX := Aside0.mk (Q_FX (hoff 13 (by kernel_rfl)))
          have RO56 := Aside0.mk (Q_RO56 (hoff 11 (by kernel_rfl)))
          have FU := Aside0.mk Q_FU
          have UA := Aside0.mk (Q_UA (hoff 8 (by kernel_rfl)))
          refine value_ (w1 := w') (v := .pointer (some ⟨u, 0, none⟩)) ?cA ?cB ?_ ?_
          case cA => rfl
          case cB => rfl
          · go_simp
            (try simp only [i64_w])
            try rfl
          refine hK.out _ _ ⟨g65_, v66_, m10_, (by rw [ha.out]; exact putSel_upk 3 hb_ rfl rfl rfl), Q_HBr, Q_FX, Q_RO56, Q_FU, Q_UA, fun h0_ => absurd ((hoff 13 (by kernel_rfl)).symm.trans h0_) (by decide), fun h0_ => absurd ((hoff 8 (by kernel_rfl)).symm.trans h0_) (by decide), fun h0_ => absurd ((hoff 10 (by kernel_rfl)).symm.trans h0_) (by decide), fun h0_ => absurd ((hoff 11 (by kernel_rfl)).symm.trans h0_) (by decide), fun h0_ _ => absurd ((hoff 10 (by kernel_rfl)).symm.trans h0_) (by decide), fun h0_ => absurd ((hoff 10 (by kernel_rfl)).symm.trans h0_) (by decide)⟩
        refine steps_cons ?_ ?_
        · rintro b a w' ⟨g65_, v66_, m10_, ha, Q_HBr, Q_FX, Q_RO56, Q_FU, Q_UA, Q_FXN, Q_UB, Q_BL65, Q_RO66, Q_NE56_65, Q_X10_⟩ hb_ hon hoff
          refine ⟨_, rfl, fun K hK => ?_⟩
          have e4 : a.tmps[4]? = some (.pointer (some ⟨x, 0, none⟩)) := by rw [ha]; exact (putSel_off rfl).trans rfl
          replace ha := Aside0.mk ha
          have HBr := Aside0.mk Q_HBr
          have FX := Aside0.mk (Q_FX (hoff 13 (by kernel_rfl)))
          have RO56 := Aside0.mk (Q_RO56 (hoff 11 (by kernel_rfl)))
          have FU := Aside0.mk Q_FU
          have UA := Aside0.mk (Q_UA (hoff 8 (by kernel_rfl)))
          refine value_ (w1 := w') (v := .pointer (some ⟨x, 0, none⟩)) ?cA ?cB ?_ ?_
          case cA => rfl
          case cB => rfl
          · go_simp
            (try simp only [i64_w])
            try rfl
          refine hK.out _ _ ⟨g65_, v66_, m10_, (by rw [ha.out]; exact putSel_upk 4 hb_ rfl rfl rfl), Q_HBr, Q_FX, Q_RO56, Q_FU, Q_UA, fun h0_ => absurd ((hoff 13 (by kernel_rfl)).symm.trans h0_) (by decide), fun h0_ => absurd ((hoff 8 (by kernel_rfl)).symm.trans h0_) (by decide), fun h0_ => absurd ((hoff 10 (by kernel_rfl)).symm.trans h0_) (by decide), fun h0_ => absurd ((hoff 11 (by kernel_rfl)).symm.trans h0_) (by decide), fun h0_ _ => absurd ((hoff 10 (by kernel_rfl)).symm.trans h0_) (by decide), fun h0_ => absurd ((hoff 10 (by kernel_rfl)).symm.trans h0_) (by decide)⟩
        refine steps_cons ?_ ?_
        · rintro b a w' ⟨g65_, v66_, m10_, ha, Q_HBr, Q_FX, Q_RO56, Q_FU, Q_UA, Q_FXN, Q_UB, Q_BL65, Q_RO66, Q_NE56_65, Q_X10_⟩ hb_ hon hoff
          refine ⟨_, rfl, fun K hK => ?_⟩
          have e59 : a.tmps[59]? = some (.pointer (some ⟨x, 0, none⟩)) := by rw [ha]; exact putSel_on (e := (4, 59, .pointer (some ⟨x, 0, none⟩))) 4 rfl rfl (hon 4 (by kernel_rfl)) rfl
          replace ha := Aside0.mk ha
          have HBr := Aside0.mk Q_HBr
          have FX := Aside0.mk (Q_FX (hoff 13 (by kernel_rfl)))
          have RO56 := Aside0.mk (Q_RO56 (hoff 11 (by kernel_rfl)))
          have FU := Aside0.mk Q_FU
          have UA := Aside0.mk (Q_UA (hoff 8 (by kernel_rfl)))
          refine value_ (w1 := w') (v := .pointer (some ⟨x, 0, none⟩)) ?cA ?cB ?_ ?_
          case cA => rfl
          case cB => rfl
          · go_simp
            (try simp only [i64_w])
            try rfl
          refine hK.out _ _ ⟨g65_, v66_, m10_, (by rw [ha.out]; exact putSel_upk 5 hb_ rfl rfl rfl), Q_HBr, Q_FX, Q_RO56, Q_FU, Q_UA, fun h0_ => absurd ((hoff 13 (by kernel_rfl)).symm.trans h0_) (by decide), fun h0_ => absurd ((hoff 8 (by kernel_rfl)).symm.trans h0_) (by decide), fun h0_ => absurd ((hoff 10 (by kernel_rfl)).symm.trans h0_) (by decide), fun h0_ => absurd ((hoff 11 (by kernel_rfl)).symm.trans h0_) (by decide), fun h0_ _ => absurd ((hoff 10 (by kernel_rfl)).symm.trans h0_) (by decide), fun h0_ => absurd ((hoff 10 (by kernel_rfl)).symm.trans h0_) (by decide)⟩
        refine steps_cons ?_ ?_
        · rintro b a w' ⟨g65_, v66_, m10_, ha, Q_HBr, Q_FX, Q_RO56, Q_FU, Q_UA, Q_FXN, Q_UB, Q_BL65, Q_RO66, Q_NE56_65, Q_X10_⟩ hb_ hon hoff
          refine ⟨_, rfl, fun K hK => ?_⟩
          have e60 : a.tmps[60]? = some (.pointer (some ⟨x, 0, none⟩)) := by rw [ha]; exact putSel_on (e := (5, 60, .pointer (some ⟨x, 0, none⟩))) 5 rfl rfl (hon 5 (by kernel_rfl)) rfl
          replace ha := Aside0.mk ha
          have HBr := Aside0.mk Q_HBr
          have FX := Aside0.mk (Q_FX (hoff 13 (by kernel_rfl)))
          have RO56 := Aside0.mk (Q_RO56 (hoff 11 (by kernel_rfl)))
          have FU := Aside0.mk Q_FU
          have UA := Aside0.mk (Q_UA (hoff 8 (by kernel_rfl)))
          refine value_ (w1 := w') (v := .pointer (some ⟨x, 0, none⟩)) ?cA ?cB ?_ ?_
          case cA => rfl
          case cB => rfl
          · go_simp
            (try simp only [i64_w])
            try rfl
          refine hK.out _ _ ⟨g65_, v66_, m10_, (by rw [ha.out]; exact putSel_upk 6 hb_ rfl rfl rfl), Q_HBr, Q_FX, Q_RO56, Q_FU, Q_UA, fun h0_ => absurd ((hoff 13 (by kernel_rfl)).symm.trans h0_) (by decide), fun h0_ => absurd ((hoff 8 (by kernel_rfl)).symm.trans h0_) (by decide), fun h0_ => absurd ((hoff 10 (by kernel_rfl)).symm.trans h0_) (by decide), fun h0_ => absurd ((hoff 11 (by kernel_rfl)).symm.trans h0_) (by decide), fun h0_ _ => absurd ((hoff 10 (by kernel_rfl)).symm.trans h0_) (by decide), fun h0_ => absurd ((hoff 10 (by kernel_rfl)).symm.trans h0_) (by decide)⟩
        refine steps_cons ?_ ?_
        · rintro b a w' ⟨g65_, v66_, m10_, ha, Q_HBr, Q_FX, Q_RO56, Q_FU, Q_UA, Q_FXN, Q_UB, Q_BL65, Q_RO66, Q_NE56_65, Q_X10_⟩ hb_ hon hoff
          refine ⟨_, rfl, fun K hK => ?_⟩
          have e61 : a.tmps[61]? = some (.pointer (some ⟨x, 0, none⟩)) := by rw [ha]; exact putSel_on (e := (6, 61, .pointer (some ⟨x, 0, none⟩))) 6 rfl rfl (hon 6 (by kernel_rfl)) rfl
          replace ha := Aside0.mk ha
          have HBr := Aside0.mk Q_HBr
          have FX := Aside0.mk (Q_FX (hoff 13 (by kernel_rfl)))
          have RO56 := Aside0.mk (Q_RO56 (hoff 11 (by kernel_rfl)))
          have FU := Aside0.mk Q_FU
          have UA := Aside0.mk (Q_UA (hoff 8 (by kernel_rfl)))
          have z0_ : w'.cell? ⟨x, 0, none⟩ = some (.int .i64 st) := (blk_cell (FX.out) 0).trans rfl
          refine value_ (w1 := w') (v := .int .i64 st) ?cA ?cB ?_ ?_
          case cA => rfl
          case cB => rfl
          · go_simp
            (try simp only [i64_w])
            try rfl
          refine hK.out _ _ ⟨g65_, v66_, m10_, (by rw [ha.out]; exact putSel_upk 7 hb_ rfl rfl rfl), Q_HBr, Q_FX, Q_RO56, Q_FU, Q_UA, fun h0_ => absurd ((hoff 13 (by kernel_rfl)).symm.trans h0_) (by decide), fun h0_ => absurd ((hoff 8 (by kernel_rfl)).symm.trans h0_) (by decide), fun h0_ => absurd ((hoff 10 (by kernel_rfl)).symm.trans h0_) (by decide), fun h0_ => absurd ((hoff 11 (by kernel_rfl)).symm.trans h0_) (by decide), fun h0_ _ => absurd ((hoff 10 (by kernel_rfl)).symm.trans h0_) (by decide), fun h0_ => absurd ((hoff 10 (by kernel_rfl)).symm.trans h0_) (by decide)⟩
        refine steps_cons ?_ ?_
        · rintro b a w' ⟨g65_, v66_, m10_, ha, Q_HBr, Q_FX, Q_RO56, Q_FU, Q_UA, Q_FXN, Q_UB, Q_BL65, Q_RO66, Q_NE56_65, Q_X10_⟩ hb_ hon hoff
          refine ⟨_, rfl, fun K hK => ?_⟩
          have e58 : a.tmps[58]? = some (.pointer (some ⟨u, 0, none⟩)) := by rw [ha]; exact putSel_on (e := (3, 58, .pointer (some ⟨u, 0, none⟩))) 3 rfl rfl (hon 3 (by kernel_rfl)) rfl
          have e62 : a.tmps[62]? = some (.int .i64 st) := by rw [ha]; exact putSel_on (e := (7, 62, .int .i64 st)) 7 rfl rfl (hon 7 (by kernel_rfl)) rfl
          replace ha := Aside0.mk ha
          have HBr := Aside0.mk Q_HBr
          have FX := Aside0.mk (Q_FX (hoff 13 (by kernel_rfl)))
          have RO56 := Aside0.mk (Q_RO56 (hoff 11 (by kernel_rfl)))
          have FU := Aside0.mk Q_FU
          have UA := Aside0.mk (Q_UA hb_)
          refine goes_ Tryd.func21 (by kernel_rfl) rfl #[.pointer (some ⟨u, 0, none⟩), .int .i64 st] (by rfl) rfl rfl (by first | (simp only [List.map_toArray, List.map_cons, List.map_nil, Act.eval, Array.getD_eq_getD_getElem?, Option.getD_some, e58, e62]; done) | (simp only [List.map_toArray, List.map_cons, List.map_nil, Act.eval, Array.getD_eq_getD_getElem?, Option.getD_some, e58, e62]; rfl)) ?_
          refine (op_c u s (i + 1) st HST15.out _ (by omega) (by omega) UA.out).mono ?_
          rintro e w1 ⟨rfl, hU1, hg⟩
          refine ⟨_, rfl, ?_⟩
          refine hK.out _ _ ⟨g65_, v66_, m10_, (by rw [ha.out]; exact putSel_upk 8 hb_ rfl rfl rfl), bel_grown HBr.out hg (fun k_ hk_ => by injection hk_ with hk_; rw [← hk_]; exact FU.out) HBr.out.size, fun _ => blk_grownBy hg (fun e => hxu (by injection e with e; exact e.symm)) FX.out, fun _ => R_other rfl RO56.out hg (fun k_ hk_ e_ => Kd.R_ne RO56.out UA.out (by decide) (e_.symm.trans hk_.symm)), FU.out, fun h0_ => absurd ((up_self b 8).symm.trans h0_) (by decide), fun h0_ => absurd ((hoff 13 (by kernel_rfl)).symm.trans h0_) (by decide), fun _ => hU1, fun h0_ => absurd ((hoff 10 (by kernel_rfl)).symm.trans h0_) (by decide), fun h0_ => absurd ((hoff 11 (by kernel_rfl)).symm.trans h0_) (by decide), fun h0_ _ => absurd ((hoff 10 (by kernel_rfl)).symm.trans h0_) (by decide), fun h0_ => absurd ((hoff 10 (by kernel_rfl)).symm.trans h0_) (by decide)⟩
        refine steps_cons ?_ ?_
        · rintro b a w' ⟨g65_, v66_, m10_, ha, Q_HBr, Q_FX, Q_RO56, Q_FU, Q_UA, Q_FXN, Q_UB, Q_BL65, Q_RO66, Q_NE56_65, Q_X10_⟩ hb_ hon hoff
          refine ⟨_, rfl, fun K hK => ?_⟩
          have e57 : a.tmps[57]? = some (.int .i64 (bt s i % th)) := by rw [ha]; exact putSel_on (e := (2, 57, .int .i64 (bt s i % th))) 2 rfl rfl (hon 2 (by kernel_rfl)) rfl
          have e63 : a.tmps[63]? = some (.agg #[.int .i64 (opAt st s (i + 1)).f0, .int .i64 (opAt st s (i + 1)).f1, .int .i64 (opAt st s (i + 1)).f2, .int .i64 (opAt st s (i + 1)).f3]) := by rw [ha]; exact putSel_on (e := (8, 63, .agg #[.int .i64 (opAt st s (i + 1)).f0, .int .i64 (opAt st s (i + 1)).f1, .int .i64 (opAt st s (i + 1)).f2, .int .i64 (opAt st s (i + 1)).f3])) 8 rfl rfl (hon 8 (by kernel_rfl)) rfl
          replace ha := Aside0.mk ha
          have HBr := Aside0.mk Q_HBr
          have FX := Aside0.mk (Q_FX (hoff 13 (by kernel_rfl)))
          have RO56 := Aside0.mk (Q_RO56 (hoff 11 (by kernel_rfl)))
          have FU := Aside0.mk Q_FU
          have UB := Aside0.mk (Q_UB (hon 8 (by kernel_rfl)))
          refine value_ (w1 := w') (v := .agg #[.int .i64 (bt s i % th), .int .i64 (opAt st s (i + 1)).f0, .int .i64 (opAt st s (i + 1)).f1, .int .i64 (opAt st s (i + 1)).f2, .int .i64 (opAt st s (i + 1)).f3]) ?cA ?cB ?_ ?_
          case cA => rfl
          case cB => rfl
          · go_simp
            (try simp only [i64_w])
            try rfl
          refine hK.out _ _ ⟨g65_, v66_, m10_, (by rw [ha.out]; exact putSel_upk 9 hb_ rfl rfl rfl), Q_HBr, Q_FX, Q_RO56, Q_FU, fun h0_ => absurd ((hon 8 (by kernel_rfl)).symm.trans h0_) (by decide), fun h0_ => absurd ((hoff 13 (by kernel_rfl)).symm.trans h0_) (by decide), Q_UB, fun h0_ => absurd ((hoff 10 (by kernel_rfl)).symm.trans h0_) (by decide), fun h0_ => absurd ((hoff 11 (by kernel_rfl)).symm.trans h0_) (by decide), fun h0_ _ => absurd ((hoff 10 (by kernel_rfl)).symm.trans h0_) (by decide), fun h0_ => absurd ((hoff 10 (by kernel_rfl)).symm.trans h0_) (by decide)⟩
        refine steps_cons ?_ ?_
        · rintro b a w' ⟨g65_, v66_, m10_, ha, Q_HBr, Q_FX, Q_RO56, Q_FU, Q_UA, Q_FXN, Q_UB, Q_BL65, Q_RO66, Q_NE56_65, Q_X10_⟩ hb_ hon hoff
          refine ⟨_, rfl, fun K hK => ?_⟩
          have e64 : a.tmps[64]? = some (.agg #[.int .i64 (bt s i % th), .int .i64 (opAt st s (i + 1)).f0, .int .i64 (opAt st s (i + 1)).f1, .int .i64 (opAt st s (i + 1)).f2, .int .i64 (opAt st s (i + 1)).f3]) := by rw [ha]; exact putSel_on (e := (9, 64, .agg #[.int .i64 (bt s i % th), .int .i64 (opAt st s (i + 1)).f0, .int .i64 (opAt st s (i + 1)).f1, .int .i64 (opAt st s (i + 1)).f2, .int .i64 (opAt st s (i + 1)).f3])) 9 rfl rfl (hon 9 (by kernel_rfl)) rfl
          replace ha := Aside0.mk ha
          have HBr := Aside0.mk Q_HBr
          have FX := Aside0.mk (Q_FX (hoff 13 (by kernel_rfl)))
          have RO56 := Aside0.mk (Q_RO56 (hoff 11 (by kernel_rfl)))
          have FU := Aside0.mk Q_FU
          have UB := Aside0.mk (Q_UB (hon 8 (by kernel_rfl)))
          refine event_step (w1 := w'.alloc (.cells #[.int .i64 (bt s i % th), .int .i64 (opAt st s (i + 1)).f0, .int .i64 (opAt st s (i + 1)).f1, .int .i64 (opAt st s (i + 1)).f2, .int .i64 (opAt st s (i + 1)).f3] 37)) (v := .slice (some ⟨w'.heap.size, 0, none⟩) 1 1) (by rfl) ?_ ?_
          · go_simp
            try rfl
          refine hK.out _ _ ⟨w'.heap.size, v66_, (.slice (some ⟨w'.heap.size, 0, none⟩) 1 1), (by rw [ha.out]; exact putSel_upk 10 hb_ rfl rfl rfl), below_step HBr.out (below_alloc (Below.refl w'.heap.size w') _), fun _ => blk_below FX.out (below_alloc (Below.refl w'.heap.size w') _), fun _ => Kd.R_below RO56.out (below_alloc (Below.refl w'.heap.size w') _), FU.out, fun h0_ => absurd ((hon 8 (by kernel_rfl)).symm.trans h0_) (by decide), fun h0_ => absurd ((hoff 13 (by kernel_rfl)).symm.trans h0_) (by decide), fun _ => blk_below UB.out (below_alloc (Below.refl w'.heap.size w') _), fun _ => blk_new w' _, fun h0_ => absurd ((hoff 11 (by kernel_rfl)).symm.trans h0_) (by decide), fun _ h2_ => Kd.fresh_ok (Q_RO56 h2_) _ (Nat.le_refl _), fun _ => rfl⟩
        refine steps_cons ?_ ?_
        · rintro b a w' ⟨g65_, v66_, m10_, ha, Q_HBr, Q_FX, Q_RO56, Q_FU, Q_UA, Q_FXN, Q_UB, Q_BL65, Q_RO66, Q_NE56_65, Q_X10_⟩ hb_ hon hoff
          refine ⟨_, rfl, fun K hK => ?_⟩
          have e56 : a.tmps[56]? = some (v56_) := by rw [ha]; exact putSel_on (e := (1, 56, v56_)) 1 rfl rfl (hon 1 (by kernel_rfl)) rfl
          have e65 : a.tmps[65]? = some (m10_) := by rw [ha]; exact putSel_on (e := (10, 65, m10_)) 10 rfl rfl (hon 10 (by kernel_rfl)) rfl
          rw [Q_X10_ (hon 10 (by kernel_rfl))] at e65
          replace ha := Aside0.mk ha
          have HBr := Aside0.mk Q_HBr
          have FX := Aside0.mk (Q_FX (hoff 13 (by kernel_rfl)))
          have RO56 := Aside0.mk (Q_RO56 hb_)
          have FU := Aside0.mk Q_FU
          have UB := Aside0.mk (Q_UB (hon 8 (by kernel_rfl)))
          have BL65 := Aside0.mk (Q_BL65 (hon 10 (by kernel_rfl)))
          have NE56_65 := Aside0.mk (Q_NE56_65 (hon 10 (by kernel_rfl)) hb_)
          refine Kd.R_append_rows_step k37 (w0 := w) w.heap.size (by rfl) (.tmp 56) (.tmp 65) 25 37 _ _ rfl Tryd.underlying25 info37 rfl (by decide) (by decide) v56_ (xs) ([⟨bt s i % th, opAt st s (i + 1)⟩]) _ _ _ (fun _ => True) (fun _ => False) (by first | (go_simp; done) | (go_simp; rfl)) (by first | (go_simp; done) | (go_simp; rfl)) RO56.out (C_of_block (BL65.out) (Reps.cons (k37_mk _ ⟨bt s i % th, opAt st s (i + 1)⟩) rfl (Reps.none _ _)) (by simp)) (fun _ _ h => h) (fun _ h => h.elim) (fun _ _ => trivial) HBr.out (below_size HBr.out) ((by have := HXL.out; simp only [List.length_cons, List.length_nil]; omega)) ?_
          intro va_ w1 hR_ hB_ hg_ hat_
          refine hK.out _ _ ⟨g65_, va_, m10_, (by rw [ha.out]; exact putSel_upk 11 hb_ rfl rfl rfl), hB_, fun _ => blk_grownBy hg_ (Kd.R_ne RO56.out FX.out (by decide)) FX.out, fun h0_ => absurd ((up_self b 11).symm.trans h0_) (by decide), FU.out, fun h0_ => absurd ((hon 8 (by kernel_rfl)).symm.trans h0_) (by decide), fun h0_ => absurd ((hoff 13 (by kernel_rfl)).symm.trans h0_) (by decide), fun _ => blk_grownBy hg_ (Kd.R_ne RO56.out UB.out (by decide)) UB.out, fun h_ => (hg_.block _ (blk_lt (Q_BL65 h_)) (Q_NE56_65 h_ hb_)).trans (Q_BL65 h_), fun _ => hR_, fun _ h1_ => absurd ((up_self b 11).symm.trans h1_) (by decide), Q_X10_⟩
        refine steps_cons ?_ ?_
        · rintro b a w' ⟨g65_, v66_, m10_, ha, Q_HBr, Q_FX, Q_RO56, Q_FU, Q_UA, Q_FXN, Q_UB, Q_BL65, Q_RO66, Q_NE56_65, Q_X10_⟩ hb_ hon hoff
          refine ⟨_, rfl, fun K hK => ?_⟩
          have e2 : a.tmps[2]? = some (.pointer (some ⟨x, 0, none⟩)) := by rw [ha]; exact (putSel_off rfl).trans rfl
          replace ha := Aside0.mk ha
          have HBr := Aside0.mk Q_HBr
          have FX := Aside0.mk (Q_FX (hoff 13 (by kernel_rfl)))
          have FU := Aside0.mk Q_FU
          have UB := Aside0.mk (Q_UB (hon 8 (by kernel_rfl)))
          have BL65 := Aside0.mk (Q_BL65 (hon 10 (by kernel_rfl)))
          have RO66 := Aside0.mk (Q_RO66 (hon 11 (by kernel_rfl)))
          refine value_ (w1 := w') (v := .pointer (some ⟨x, 5, none⟩)) ?cA ?cB ?_ ?_
          case cA => rfl
          case cB => rfl
          · go_simp
            (try simp only [i64_w])
            try rfl
          refine hK.out _ _ ⟨g65_, v66_, m10_, (by rw [ha.out]; exact putSel_upk 12 hb_ rfl rfl rfl), Q_HBr, Q_FX, fun h0_ => absurd ((hon 11 (by kernel_rfl)).symm.trans h0_) (by decide), Q_FU, fun h0_ => absurd ((hon 8 (by kernel_rfl)).symm.trans h0_) (by decide), fun h0_ => absurd ((hoff 13 (by kernel_rfl)).symm.trans h0_) (by decide), Q_UB, Q_BL65, Q_RO66, fun _ h1_ => absurd ((hon 11 (by kernel_rfl)).symm.trans h1_) (by decide), Q_X10_⟩
        refine steps_cons ?_ ?_
        · rintro b a w' ⟨g65_, v66_, m10_, ha, Q_HBr, Q_FX, Q_RO56, Q_FU, Q_UA, Q_FXN, Q_UB, Q_BL65, Q_RO66, Q_NE56_65, Q_X10_⟩ hb_ hon hoff
          refine ⟨_, rfl, fun K hK => ?_⟩
          have e67 : a.tmps[67]? = some (.pointer (some ⟨x, 5, none⟩)) := by rw [ha]; exact putSel_on (e := (12, 67, .pointer (some ⟨x, 5, none⟩))) 12 rfl rfl (hon 12 (by kernel_rfl)) rfl
          have e66 : a.tmps[66]? = some (v66_) := by rw [ha]; exact putSel_on (e := (11, 66, v66_)) 11 rfl rfl (hon 11 (by kernel_rfl)) rfl
          replace ha := Aside0.mk ha
          have HBr := Aside0.mk Q_HBr
          have FX := Aside0.mk (Q_FX hb_)
          have FU := Aside0.mk Q_FU
          have UB := Aside0.mk (Q_UB (hon 8 (by kernel_rfl)))
          have BL65 := Aside0.mk (Q_BL65 (hon 10 (by kernel_rfl)))
          have RO66 := Aside0.mk (Q_RO66 (hon 11 (by kernel_rfl)))
          obtain ⟨A_, c_, hv_⟩ := Kd.R_slice RO66.out
          refine blk_store_step (by rfl) rfl 25 67 (.tmp 66) rfl v66_ e67 (by first | (go_simp; done) | (go_simp; rfl)) (by rw [hv_]; rfl) (by kernel_rfl) (by rw [hv_]; rfl) FX.out (by simp) ?_
          refine hK.out _ _ ⟨g65_, v66_, m10_, (by rw [ha.out]; exact putSel_none (v := undef) rfl), bel_grown HBr.out (gb_set w' x 5 v66_) (fun k_ hk_ => by injection hk_ with hk_; rw [← hk_]; exact HXW.out) HBr.out.size, fun h0_ => absurd ((up_self b 13).symm.trans h0_) (by decide), fun h0_ => absurd ((hon 11 (by kernel_rfl)).symm.trans h0_) (by decide), FU.out, fun h0_ => absurd ((hon 8 (by kernel_rfl)).symm.trans h0_) (by decide), fun _ => (heap_setCell_same _ _ _ _ _ _ FX.out).trans rfl, fun _ => urn_set UB.out x 5 hxu v66_, fun h_ => blk_set (Q_BL65 h_) (fun e_ => by subst e_; exact absurd ((Q_BL65 h_).symm.trans FX.out) (by simp)) _, fun _ => R_other rfl RO66.out (gb_set w' x 5 v66_) (fun k_ hk_ e_ => Kd.R_ne RO66.out FX.out (by decide) (e_.symm.trans hk_.symm)), fun _ h1_ => absurd ((hon 11 (by kernel_rfl)).symm.trans h1_) (by decide), Q_X10_⟩
        exact steps_nil
      rintro b a w' hall ⟨g65_, v66_, m10_, ha, Q_HBr, Q_FX, Q_RO56, Q_FU, Q_UA, Q_FXN, Q_UB, Q_BL65, Q_RO66, Q_NE56_65, Q_X10_⟩
      clear FU FX HBr RO56 UA
      have hb0_ := hall 0 (by kernel_rfl)
      have hb1_ := hall 1 (by kernel_rfl)
      have hb2_ := hall 2 (by kernel_rfl)
      have hb3_ := hall 3 (by kernel_rfl)
      have hb4_ := hall 4 (by kernel_rfl)
      have hb5_ := hall 5 (by kernel_rfl)
      have hb6_ := hall 6 (by kernel_rfl)
      have hb7_ := hall 7 (by kernel_rfl)
      have hb8_ := hall 8 (by kernel_rfl)
      have hb9_ := hall 9 (by kernel_rfl)
      have hb10_ := hall 10 (by kernel_rfl)
      have hb11_ := hall 11 (by kernel_rfl)
      have hb12_ := hall 12 (by kernel_rfl)
      have hb13_ := hall 13 (by kernel_rfl)
      subst ha
      obtain rfl := Q_X10_ hb10_
      simp only [putSel, hb0_, hb1_, hb2_, hb3_, hb4_, hb5_, hb6_, hb7_, hb8_, hb9_, hb10_, hb11_, hb12_, hb13_, if_true, Act.put, List.setIfInBounds_toArray, List.set_cons_zero, List.set_cons_succ]
      have HBr := Aside0.mk Q_HBr
      clear Q_HBr
      clear Q_FX
      clear Q_RO56
      have FU := Aside0.mk Q_FU
      clear Q_FU
      clear Q_UA
      have FXN := Aside0.mk (Q_FXN hb13_)
      clear Q_FXN
      have UB := Aside0.mk (Q_UB hb8_)
      clear Q_UB
      have BL65 := Aside0.mk (Q_BL65 hb10_)
      clear Q_BL65
      have RO66 := Aside0.mk (Q_RO66 hb11_)
      clear Q_RO66
      clear Q_NE56_65
      clear hall hb0_ hb1_ hb2_ hb3_ hb4_ hb5_ hb6_ hb7_ hb8_ hb9_ hb10_ hb11_ hb12_ hb13_
      have hnew : tasks s (k + 1) = xs ++ [⟨bt s i % th, opAt st s (i + 1)⟩] := by
        rw [tasks_snoc, ← HXS.out, ← HI.out]
        unfold taskAt
        rw [HTO.out, HSO.out]
      have hi4 : i + 1 + 3 = 6 + 4 * (k + 1) := by have := HI.out; omega
      have HNEW := Aside0.mk hnew
      clear hnew
      have HI4 := Aside0.mk hi4
      clear hi4
      go_wp2
      go_roundw
      case rel => exact ⟨k + 1, v66_, by omega, by go_num, FXN.out, by rw [HNEW.out]; exact RO66.out, by rw [← HI4.out]; exact UB.out, HBr.out⟩
      case measure => simp [intOf]; omega
    · obtain rfl : k = r5 := by omega
      have HX := Aside0.mk hX
      have HR := Aside0.mk hR
      have HU := Aside0.mk hU
      have HB := Aside0.mk hB
      clear hX hR hU hB
      have hlk : ¬ (k : Int) < (k : Int) := by omega
      go_wp2
      go_loopw [85] (fun _ wr => ∃ (j : Nat) (v83_ : Value), j ≤ npick s ∧ XB wr x st en th sl no v56_ v83_ ∧ Kd.R k37 37 wr w.heap.size (fun _ => True) v56_ (tasks s k) ∧ Kd.R (Kd.int .i64) 3 wr w.heap.size (fun _ => True) v83_ (picks s (6 + 4 * k) j) ∧ Urn wr u s (6 + 4 * k + j) ∧ Below w.heap.size w wr) (fun _ wr => s.size - urnAt wr u)
      case atStart => exact ⟨0, _, Nat.zero_le _, HX.out, HR.out, Kd.R_nil _ _ _ _ _, HU.out, HB.out⟩
      case round =>
        clear HX HR HU HB
        obtain ⟨j, v83_, hj, hX, hT, hR, hU, hB⟩ := hrel
        obtain ⟨i, hi⟩ : ∃ i, i = 6 + 4 * k + j := ⟨_, rfl⟩
        rw [← hi] at hU
        have hun := urnAt_eq hU
        have hnp : npick s = min (s.size - (6 + 4 * k)) 4096 := by unfold npick; rw [HCNT.out]
        have q1 := (blk_cell hU 1).trans rfl
        have q0 := (blk_cell hU 0).trans rfl
        have x6 := (blk_cell hX 6).trans rfl
        obtain ⟨A83, c83, hv⟩ := Kd.R_slice hR
        have hl : (picks s (6 + 4 * k) j).length = j := picks_length _ _ _
        rw [hl] at hv
        rw [show (#[Value.int .i64 st, .int .i64 en, .int .i64 th, .int .i64 sl, .int .i64 no, v56_, v83_] : Array Value)[6]? = some (.slice A83 j c83) by rw [hv]; rfl] at x6
        have HUN := Aside0.mk hun
        clear hun
        have HNP := Aside0.mk hnp
        clear hnp
        have HV := Aside0.mk hv
        clear hv
        by_cases hlt : j < npick s
        · have hi1 : i < s.size := by have := HNP.out; omega
          have hj1 : j < 4096 := by have := HNP.out; omega
          have hi2 : (i : Int) < (s.size : Int) := by omega
          have hj2 : (j : Int) < 4096 := by omega
          obtain ⟨xs, hxs⟩ : ∃ xs, xs = picks s (6 + 4 * k) j := ⟨_, rfl⟩
          have hxl : xs.length ≤ 4096 := by rw [hxs, hl]; omega
          rw [← hxs] at hR
          have htm : (bt s i).tmod th = bt s i % th := Int.tmod_eq_emod_of_nonneg (bt_nonneg s i)
          have ht3 : 0 ≤ bt s i % th := Int.emod_nonneg _ (by have := HT1.out; omega)
          have ht4 : bt s i % th < 256 := by have := Int.emod_lt_of_pos (bt s i) (show 0 < th by have := HT1.out; omega); have := HT6.out; omega
          have FX := Aside0.mk hX
          have FT := Aside0.mk hT
          have RO83 := Aside0.mk hR
          have UA := Aside0.mk hU
          have HB := Aside0.mk hB
          clear hX hT hR hU hB hl
          have HXS := Aside0.mk hxs
          clear hxs
          have HXL := Aside0.mk hxl
          clear hxl
          have HTM := Aside0.mk htm
          clear htm
          have HT3 := Aside0.mk ht3
          clear ht3
          have HT4 := Aside0.mk ht4
          clear ht4
          have HI := Aside0.mk hi
          clear hi
          go_wp2
          refine start_ (n := 13) (S := fun w' => True) (ds := []) #[false, false, false, false, false, false, false, false, false, false, false, false, false] (by kernel_rfl) rfl rfl trivial (fun hHeld => ?_)
          refine with_tabW dec14.tab14 dec14.bits14 (fun HT_ HW_ => ?_)
          have HBr := Aside0.mk (below_drew1 HB.out)
          refine inv_at [0, 1, 2, 3, 4, 5, 6, 7, 8, 9, 10, 11, 12] (fun a0_ b a w' => ∃ (g91_ : Nat) (v92_ : Value) (m9_ : Value), a = putSel a0_ b [(0, 82, .pointer (some ⟨x, 6, none⟩)), (1, 83, v83_), (2, 84, .pointer (some ⟨u, 0, none⟩)), (3, 85, .int .i64 (bt s i)), (4, 86, .pointer (some ⟨x, 0, none⟩)), (5, 87, .pointer (some ⟨x, 0, none⟩)), (6, 88, .pointer (some ⟨x, 2, none⟩)), (7, 89, .int .i64 th), (8, 90, .int .i64 (bt s i % th)), (9, 91, m9_), (10, 92, v92_), (11, 93, .pointer (some ⟨x, 6, none⟩))] ∧ (Below w.heap.size w w') ∧ (b 12 = false → XB w' x st en th sl no v56_ v83_) ∧ (b 10 = false → Kd.R (Kd.int .i64) 3 w' w.heap.size (fun _ => True) v83_ (xs)) ∧ (w.heap.size ≤ u) ∧ (b 3 = false → Urn w' u s i) ∧ (Kd.R k37 37 w' w.heap.size (fun _ => True) v56_ (tasks s k)) ∧ (b 12 = true → XB w' x st en th sl no v56_ v92_) ∧ (b 3 = true → Urn w' u s (i + 1)) ∧ (b 9 = true → w'.heap[g91_]? = some (.cells #[.int .i64 (bt s i % th)] 3 (0, 0))) ∧ (b 10 = true → Kd.R (Kd.int .i64) 3 w' w.heap.size (fun _ => True) v92_ (xs ++ [bt s i % th])) ∧ (b 9 = true → b 10 = false → some g91_ ≠ v83_.ownBlock) ∧ (b 9 = true → (m9_ : Value) = .slice (some ⟨g91_, 0, none⟩) 1 1)) HT_.out HW_.out (by kernel_rfl) (by kernel_rfl) ?_ ?_ ?_
          · exact ⟨0, .bool false, .bool false, by simp only [putSel, Bool.false_eq_true, if_false], HBr.out, fun _ => FX.out, fun _ => RO83.out, FU.out, fun _ => UA.out, FT.out, fun h_ => absurd h_ (by decide), fun h_ => absurd h_ (by decide), fun h_ => absurd h_ (by decide), fun h_ => absurd h_ (by decide), fun h_ => absurd h_ (by decide), fun h_ => absurd h_ (by decide)⟩
          · skip
            clear FT FU FX HBr RO83 UA
            refine steps_cons ?_ ?_
            · rintro b a w' ⟨g91_, v92_, m9_, ha, Q_HBr, Q_FX, Q_RO83, Q_FU, Q_UA, Q_FT, Q_FXN, Q_UB, Q_BL91, Q_RO92, Q_NE83_91, Q_X9_⟩ hb_ hon hoff
              refine ⟨_, rfl, fun K hK => ?_⟩
              have e2 : a.tmps[2]? = some (.pointer (some ⟨x, 0, none⟩)) := by rw [ha]; exact (putSel_off rfl).trans rfl
              replace ha := Aside0.mk ha
              have HBr := Aside0.mk Q_HBr
              have FX := Aside0.mk (Q_FX (hoff 12 (by kernel_rfl)))
              have RO83 := Aside0.mk (Q_RO83 (hoff 10 (by kernel_rfl)))
              have FU := Aside0.mk Q_FU
              have FT := Aside0.mk Q_FT
              refine value_ (w1 := w') (v := .pointer (some ⟨x, 6, none⟩)) ?cA ?cB ?_ ?_
              case cA => rfl
              case cB => rfl
              · go_simp
                (try simp only [i64_w])
                try rfl
              refine hK.out _ _ ⟨g91_, v92_, m9_, (by rw [ha.out]; exact putSel_upk 0 hb_ rfl rfl rfl), Q_HBr, Q_FX, Q_RO83, Q_FU, Q_UA, Q_FT, fun h0_ => absurd ((hoff 12 (by kernel_rfl)).symm.trans h0_) (by decide), Q_UB, Q_BL91, fun h0_ => absurd ((hoff 10 (by kernel_rfl)).symm.trans h0_) (by decide), Q_NE83_91, Q_X9_⟩
            refine steps_cons ?_ ?_
            · rintro b a w' ⟨g91_, v92_, m9_, ha, Q_HBr, Q_FX, Q_RO83, Q_FU, Q_UA, Q_FT, Q_FXN, Q_UB, Q_BL91, Q_RO92, Q_NE83_91, Q_X9_⟩ hb_ hon hoff
              refine ⟨_, rfl, fun K hK => ?_⟩
              have e82 : a.tmps[82]? = some (.pointer (some ⟨x, 6, none⟩)) := by rw [ha]; exact putSel_on (e := (0, 82, .pointer (some ⟨x, 6, none⟩))) 0 rfl rfl (hon 0 (by kernel_rfl)) rfl
              replace ha := Aside0.mk ha
              have HBr := Aside0.mk Q_HBr
              have FX := Aside0.mk (Q_FX (hoff 12 (by kernel_rfl)))
              have RO83 := Aside0.mk (Q_RO83 (hoff 10 (by kernel_rfl)))
              have FU := Aside0.mk Q_FU
              have FT := Aside0.mk Q_FT
              have z6_ : w'.cell? ⟨x, 6, none⟩ = some (v83_) := (blk_cell (FX.out) 6).trans rfl
              refine value_ (w1 := w') (v := v83_) ?cA ?cB ?_ ?_
              case cA => rfl
              case cB => rfl
              · go_simp
                (try simp only [i64_w])
                try rfl
              refine hK.out _ _ ⟨g91_, v92_, m9_, (by rw [ha.out]; exact putSel_upk 1 hb_ rfl rfl rfl), Q_HBr, Q_FX, Q_RO83, Q_FU, Q_UA, Q_FT, fun h0_ => absurd ((hoff 12 (by kernel_rfl)).symm.trans h0_) (by decide), Q_UB, Q_BL91, fun h0_ => absurd ((hoff 10 (by kernel_rfl)).symm.trans h0_) (by decide), Q_NE83_91, Q_X9_⟩
            refine steps_cons ?_ ?_
            · rintro b a w' ⟨g91_, v92_, m9_, ha, Q_HBr, Q_FX, Q_RO83, Q_FU, Q_UA, Q_FT, Q_FXN, Q_UB, Q_BL91, Q_RO92, Q_NE83_91, Q_X9_⟩ hb_ hon hoff
              refine ⟨_, rfl, fun K hK => ?_⟩
              have e3 : a.tmps[3]? = some (.pointer (some ⟨u, 0, none⟩)) := by rw [ha]; exact (putSel_off rfl).trans rfl
              replace ha := Aside0.mk ha
              have HBr := Aside0.mk Q_HBr
              have FX := Aside0.mk (Q_FX (hoff 12 (by kernel_rfl)))
              have RO83 := Aside0.mk (Q_RO83 (hoff 10 (by kernel_rfl)))
              have FU := Aside0.mk Q_FU
              have UA := Aside0.mk (Q_UA (hoff 3 (by kernel_rfl)))
              have FT := Aside0.mk Q_FT
              refine value_ (w1 := w') (v := .pointer (some ⟨u, 0, none⟩)) ?cA ?cB ?_ ?_
              case cA => rfl
              case cB => rfl
              · go_simp
                (try simp only [i64_w])
                try rfl
              refine hK.out _ _ ⟨g91_, v92_, m9_, (by rw [ha.out]; exact putSel_upk 2 hb_ rfl rfl rfl), Q_HBr, Q_FX, Q_RO83, Q_FU, Q_UA, Q_FT, fun h0_ => absurd ((hoff 12 (by kernel_rfl)).symm.trans h0_) (by decide), fun h0_ => absurd ((hoff 3 (by kernel_rfl)).symm.trans h0_) (by decide), fun h0_ => absurd ((hoff 9 (by kernel_rfl)).symm.trans h0_) (by decide), fun h0_ => absurd ((hoff 10 (by kernel_rfl)).symm.trans h0_) (by decide), fun h0_ _ => absurd ((hoff 9 (by kernel_rfl)).symm.trans h0_) (by decide), fun h0_ => absurd ((hoff 9 (by kernel_rfl)).symm.trans h0_) (by decide)⟩
            refine steps_cons ?_ ?_
            · rintro b a w' ⟨g91_, v92_, m9_, ha, Q_HBr, Q_FX, Q_RO83, Q_FU, Q_UA, Q_FT, Q_FXN, Q_UB, Q_BL91, Q_RO92, Q_NE83_91, Q_X9_⟩ hb_ hon hoff
              refine ⟨_, rfl, fun K hK => ?_⟩
              have e84 : a.tmps[84]? = some (.pointer (some ⟨u, 0, none⟩)) := by rw [ha]; exact putSel_on (e := (2, 84, .pointer (some ⟨u, 0, none⟩))) 2 rfl rfl (hon 2 (by kernel_rfl)) rfl
              replace ha := Aside0.mk ha
              have HBr := Aside0.mk Q_HBr
              have FX := Aside0.mk (Q_FX (hoff 12 (by kernel_rfl)))
              have RO83 := Aside0.mk (Q_RO83 (hoff 10 (by kernel_rfl)))
              have FU := Aside0.mk Q_FU
              have UA := Aside0.mk (Q_UA hb_)
              have FT := Aside0.mk Q_FT
              refine goes_ Tryd.func20 (by kernel_rfl) rfl #[.pointer (some ⟨u, 0, none⟩)] (by rfl) rfl rfl (by first | (simp only [List.map_toArray, List.map_cons, List.map_nil, Act.eval, Array.getD_eq_getD_getElem?, Option.getD_some, e84]; done) | (simp only [List.map_toArray, List.map_cons, List.map_nil, Act.eval, Array.getD_eq_getD_getElem?, Option.getD_some, e84]; rfl)) ?_
              refine (draw_c u s i _ (by omega) (by omega) UA.out).mono ?_
              rintro e w1 ⟨rfl, hU1, hg⟩
              refine ⟨_, rfl, ?_⟩
              refine hK.out _ _ ⟨g91_, v92_, m9_, (by rw [ha.out]; exact putSel_upk 3 hb_ rfl rfl rfl), bel_grown HBr.out hg (fun k_ hk_ => by injection hk_ with hk_; rw [← hk_]; exact FU.out) HBr.out.size, fun _ => blk_grownBy hg (fun e => hxu (by injection e with e; exact e.symm)) FX.out, fun _ => R_other rfl RO83.out hg (fun k_ hk_ e_ => Kd.R_ne RO83.out UA.out (by decide) (e_.symm.trans hk_.symm)), FU.out, fun h0_ => absurd ((up_self b 3).symm.trans h0_) (by decide), R_other rfl FT.out hg (fun k_ hk_ e_ => Kd.R_ne FT.out UA.out (by decide) (e_.symm.trans hk_.symm)), fun h0_ => absurd ((hoff 12 (by kernel_rfl)).symm.trans h0_) (by decide), fun _ => hU1, fun h0_ => absurd ((hoff 9 (by kernel_rfl)).symm.trans h0_) (by decide), fun h0_ => absurd ((hoff 10 (by kernel_rfl)).symm.trans h0_) (by decide), fun h0_ _ => absurd ((hoff 9 (by kernel_rfl)).symm.trans h0_) (by decide), fun h0_ => absurd ((hoff 9 (by kernel_rfl)).symm.trans h0_) (by decide)⟩
            refine steps_cons ?_ ?_
            · rintro b a w' ⟨g91_, v92_, m9_, ha, Q_HBr, Q_FX, Q_RO83, Q_FU, Q_UA, Q_FT, Q_FXN, Q_UB, Q_BL91, Q_RO92, Q_NE83_91, Q_X9_⟩ hb_ hon hoff
              refine ⟨_, rfl, fun K hK => ?_⟩
              have e4 : a.tmps[4]? = some (.pointer (some ⟨x, 0, none⟩)) := by rw [ha]; exact (putSel_off rfl).trans rfl
              replace ha := Aside0.mk ha
              have HBr := Aside0.mk Q_HBr
              have FX := Aside0.mk (Q_FX (hoff 12 (by kernel_rfl)))
              have RO83 := Aside0.mk (Q_RO83 (hoff 10 (by kernel_rfl)))
              have FU := Aside0.mk Q_FU
              have FT := Aside0.mk Q_FT
              refine value_ (w1 := w') (v := .pointer (some ⟨x, 0, none⟩)) ?cA ?cB ?_ ?_
              case cA => rfl
              case cB => rfl
              · go_simp
                (try simp only [i64_w])
                try rfl
              refine hK.out _ _ ⟨g91_, v92_, m9_, (by rw [ha.out]; exact putSel_upk 4 hb_ rfl rfl rfl), Q_HBr, Q_FX, Q_RO83, Q_FU, Q_UA, Q_FT, fun h0_ => absurd ((hoff 12 (by kernel_rfl)).symm.trans h0_) (by decide), Q_UB, fun h0_ => absurd ((hoff 9 (by kernel_rfl)).symm.trans h0_) (by decide), fun h0_ => absurd ((hoff 10 (by kernel_rfl)).symm.trans h0_) (by decide), fun h0_ _ => absurd ((hoff 9 (by kernel_rfl)).symm.trans h0_) (by decide), fun h0_ => absurd ((hoff 9 (by kernel_rfl)).symm.trans h0_) (by decide)⟩
            refine steps_cons ?_ ?_
            · rintro b a w' ⟨g91_, v92_, m9_, ha, Q_HBr, Q_FX, Q_RO83, Q_FU, Q_UA, Q_FT, Q_FXN, Q_UB, Q_BL91, Q_RO92, Q_NE83_91, Q_X9_⟩ hb_ hon hoff
              refine ⟨_, rfl, fun K hK => ?_⟩
              have e86 : a.tmps[86]? = some (.pointer (some ⟨x, 0, none⟩)) := by rw [ha]; exact putSel_on (e := (4, 86, .pointer (some ⟨x, 0, none⟩))) 4 rfl rfl (hon 4 (by kernel_rfl)) rfl
              replace ha := Aside0.mk ha
              have HBr := Aside0.mk Q_HBr
              have FX := Aside0.mk (Q_FX (hoff 12 (by kernel_rfl)))
              have RO83 := Aside0.mk (Q_RO83 (hoff 10 (by kernel_rfl)))
              have FU := Aside0.mk Q_FU
              have FT := Aside0.mk Q_FT
              refine value_ (w1 := w') (v := .pointer (some ⟨x, 0, none⟩)) ?cA ?cB ?_ ?_
              case cA => rfl
              case cB => rfl
              · go_simp
                (try simp only [i64_w])
                try rfl
              refine hK.out _ _ ⟨g91_, v92_, m9_, (by rw [ha.out]; exact putSel_upk 5 hb_ rfl rfl rfl), Q_HBr, Q_FX, Q_RO83, Q_FU, Q_UA, Q_FT, fun h0_ => absurd ((hoff 12 (by kernel_rfl)).symm.trans h0_) (by decide), Q_UB, fun h0_ => absurd ((hoff 9 (by kernel_rfl)).symm.trans h0_) (by decide), fun h0_ => absurd ((hoff 10 (by kernel_rfl)).symm.trans h0_) (by decide), fun h0_ _ => absurd ((hoff 9 (by kernel_rfl)).symm.trans h0_) (by decide), fun h0_ => absurd ((hoff 9 (by kernel_rfl)).symm.trans h0_) (by decide)⟩
            refine steps_cons ?_ ?_
            · rintro b a w' ⟨g91_, v92_, m9_, ha, Q_HBr, Q_FX, Q_RO83, Q_FU, Q_UA, Q_FT, Q_FXN, Q_UB, Q_BL91, Q_RO92, Q_NE83_91, Q_X9_⟩ hb_ hon hoff
              refine ⟨_, rfl, fun K hK => ?_⟩
              have e87 : a.tmps[87]? = some (.pointer (some ⟨x, 0, none⟩)) := by rw [ha]; exact putSel_on (e := (5, 87, .pointer (some ⟨x, 0, none⟩))) 5 rfl rfl (hon 5 (by kernel_rfl)) rfl
              replace ha := Aside0.mk ha
              have HBr := Aside0.mk Q_HBr
              have FX := Aside0.mk (Q_FX (hoff 12 (by kernel_rfl)))
              have RO83 := Aside0.mk (Q_RO83 (hoff 10 (by kernel_rfl)))
              have FU := Aside0.mk Q_FU
              have FT := Aside0.mk Q_FT
              refine value_ (w1 := w') (v := .pointer (some ⟨x, 2, none⟩)) ?cA ?cB ?_ ?_
              case cA => rfl
              case cB => rfl
              · go_simp
                (try simp only [i64_w])
                try rfl
              refine hK.out _ _ ⟨g91_, v92_, m9_, (by rw [ha.out]; exact putSel_upk 6 hb_ rfl rfl rfl), Q_HBr, Q_FX, Q_RO83, Q_FU, Q_UA, Q_FT, fun h0_ => absurd ((hoff 12 (by kernel_rfl)).symm.trans h0_) (by decide), Q_UB, fun h0_ => absurd ((hoff 9 (by kernel_rfl)).symm.trans h0_) (by decide), fun h0_ => absurd ((hoff 10 (by kernel_rfl)).symm.trans h0_) (by decide), fun h0_ _ => absurd ((hoff 9 (by kernel_rfl)).symm.trans h0_) (by decide), fun h0_ => absurd ((hoff 9 (by kernel_rfl)).symm.trans h0_) (by decide)⟩
            refine steps_cons ?_ ?_
            · rintro b a w' ⟨g91_, v92_, m9_, ha, Q_HBr, Q_FX, Q_RO83, Q_FU, Q_UA, Q_FT, Q_FXN, Q_UB, Q_BL91, Q_RO92, Q_NE83_91, Q_X9_⟩ hb_ hon hoff
              refine ⟨_, rfl, fun K hK => ?_⟩
              have e88 : a.tmps[88]? = some (.pointer (some ⟨x, 2, none⟩)) := by rw [ha]; exact putSel_on (e := (6, 88, .pointer (some ⟨x, 2, none⟩))) 6 rfl rfl (hon 6 (by kernel_rfl)) rfl
              replace ha := Aside0.mk ha
              have HBr := Aside0.mk Q_HBr
              have FX := Aside0.mk (Q_FX (hoff 12 (by kernel_rfl)))
              have RO83 := Aside0.mk (Q_RO83 (hoff 10 (by kernel_rfl)))
              have FU := Aside0.mk Q_FU
              have FT := Aside0.mk Q_FT
              have z2_ : w'.cell? ⟨x, 2, none⟩ = some (.int .i64 th) := (blk_cell (FX.out) 2).trans rfl
              refine value_ (w1 := w') (v := .int .i64 th) ?cA ?cB ?_ ?_
              case cA => rfl
              case cB => rfl
              · go_simp
                (try simp only [i64_w])
                try rfl
              refine hK.out _ _ ⟨g91_, v92_, m9_, (by rw [ha.out]; exact putSel_upk 7 hb_ rfl rfl rfl), Q_HBr, Q_FX, Q_RO83, Q_FU, Q_UA, Q_FT, fun h0_ => absurd ((hoff 12 (by kernel_rfl)).symm.trans h0_) (by decide), Q_UB, fun h0_ => absurd ((hoff 9 (by kernel_rfl)).symm.trans h0_) (by decide), fun h0_ => absurd ((hoff 10 (by kernel_rfl)).symm.trans h0_) (by decide), fun h0_ _ => absurd ((hoff 9 (by kernel_rfl)).symm.trans h0_) (by decide), fun h0_ => absurd ((hoff 9 (by kernel_rfl)).symm.trans h0_) (by decide)⟩
            refine steps_cons ?_ ?_
            · rintro b a w' ⟨g91_, v92_, m9_, ha, Q_HBr, Q_FX, Q_RO83, Q_FU, Q_UA, Q_FT, Q_FXN, Q_UB, Q_BL91, Q_RO92, Q_NE83_91, Q_X9_⟩ hb_ hon hoff
              refine ⟨_, rfl, fun K hK => ?_⟩
              have e85 : a.tmps[85]? = some (.int .i64 (bt s i)) := by rw [ha]; exact putSel_on (e := (3, 85, .int .i64 (bt s i))) 3 rfl rfl (hon 3 (by kernel_rfl)) rfl
              have e89 : a.tmps[89]? = some (.int .i64 th) := by rw [ha]; exact putSel_on (e := (7, 89, .int .i64 th)) 7 rfl rfl (hon 7 (by kernel_rfl)) rfl
              replace ha := Aside0.mk ha
              have HBr := Aside0.mk Q_HBr
              have FX := Aside0.mk (Q_FX (hoff 12 (by kernel_rfl)))
              have RO83 := Aside0.mk (Q_RO83 (hoff 10 (by kernel_rfl)))
              have FU := Aside0.mk Q_FU
              have FT := Aside0.mk Q_FT
              have UB := Aside0.mk (Q_UB (hon 3 (by kernel_rfl)))
              have z1_ : (bt s i).tmod th = bt s i % th := HTM.out
              have z2_ : 1 ≤ th := HT1.out
              have z3_ : ¬ th = 0 := by have := HT1.out; omega
              have z4_ : 0 ≤ bt s i := bt_nonneg s i
              have z5_ : bt s i < 256 := bt_lt s i
              have z6_ : 0 ≤ bt s i % th := HT3.out
              have z7_ : bt s i % th < 256 := HT4.out
              refine value_ (w1 := w') (v := .int .i64 (bt s i % th)) ?cA ?cB ?_ ?_
              case cA => rfl
              case cB => rfl
              · go_simp
                (try simp only [i64_w])
                try rfl
              refine hK.out _ _ ⟨g91_, v92_, m9_, (by rw [ha.out]; exact putSel_upk 8 hb_ rfl rfl rfl), Q_HBr, Q_FX, Q_RO83, Q_FU, fun h0_ => absurd ((hon 3 (by kernel_rfl)).symm.trans h0_) (by decide), Q_FT, fun h0_ => absurd ((hoff 12 (by kernel_rfl)).symm.trans h0_) (by decide), Q_UB, fun h0_ => absurd ((hoff 9 (by kernel_rfl)).symm.trans h0_) (by decide), fun h0_ => absurd ((hoff 10 (by kernel_rfl)).symm.trans h0_) (by decide), fun h0_ _ => absurd ((hoff 9 (by kernel_rfl)).symm.trans h0_) (by decide), fun h0_ => absurd ((hoff 9 (by kernel_rfl)).symm.trans h0_) (by decide)⟩
            refine steps_cons ?_ ?_
            · rintro b a w' ⟨g91_, v92_, m9_, ha, Q_HBr, Q_FX, Q_RO83, Q_FU, Q_UA, Q_FT, Q_FXN, Q_UB, Q_BL91, Q_RO92, Q_NE83_91, Q_X9_⟩ hb_ hon hoff
              refine ⟨_, rfl, fun K hK => ?_⟩
              have e90 : a.tmps[90]? = some (.int .i64 (bt s i % th)) := by rw [ha]; exact putSel_on (e := (8, 90, .int .i64 (bt s i % th))) 8 rfl rfl (hon 8 (by kernel_rfl)) rfl
              replace ha := Aside0.mk ha
              have HBr := Aside0.mk Q_HBr
              have FX := Aside0.mk (Q_FX (hoff 12 (by kernel_rfl)))
              have RO83 := Aside0.mk (Q_RO83 (hoff 10 (by kernel_rfl)))
              have FU := Aside0.mk Q_FU
              have FT := Aside0.mk Q_FT
              have UB := Aside0.mk (Q_UB (hon 3 (by kernel_rfl)))
              refine event_step (w1 := w'.alloc (.cells #[.int .i64 (bt s i % th)] 3)) (v := .slice (some ⟨w'.heap.size, 0, none⟩) 1 1) (by rfl) ?_ ?_
              · go_simp
                try rfl
              refine hK.out _ _ ⟨w'.heap.size, v92_, (.slice (some ⟨w'.heap.size, 0, none⟩) 1 1), (by rw [ha.out]; exact putSel_upk 9 hb_ rfl rfl rfl), below_step HBr.out (below_alloc (Below.refl w'.heap.size w') _), fun _ => blk_below FX.out (below_alloc (Below.refl w'.heap.size w') _), fun _ => Kd.R_below RO83.out (below_alloc (Below.refl w'.heap.size w') _), FU.out, fun h0_ => absurd ((hon 3 (by kernel_rfl)).symm.trans h0_) (by decide), Kd.R_below FT.out (below_alloc (Below.refl w'.heap.size w') _), fun h0_ => absurd ((hoff 12 (by kernel_rfl)).symm.trans h0_) (by decide), fun _ => blk_below UB.out (below_alloc (Below.refl w'.heap.size w') _), fun _ => blk_new w' _, fun h0_ => absurd ((hoff 10 (by kernel_rfl)).symm.trans h0_) (by decide), fun _ h2_ => Kd.fresh_ok (Q_RO83 h2_) _ (Nat.le_refl _), fun _ => rfl⟩
            refine steps_cons ?_ ?_
            · rintro b a w' ⟨g91_, v92_, m9_, ha, Q_HBr, Q_FX, Q_RO83, Q_FU, Q_UA, Q_FT, Q_FXN, Q_UB, Q_BL91, Q_RO92, Q_NE83_91, Q_X9_⟩ hb_ hon hoff
              refine ⟨_, rfl, fun K hK => ?_⟩
              have e83 : a.tmps[83]? = some (v83_) := by rw [ha]; exact putSel_on (e := (1, 83, v83_)) 1 rfl rfl (hon 1 (by kernel_rfl)) rfl
              have e91 : a.tmps[91]? = some (m9_) := by rw [ha]; exact putSel_on (e := (9, 91, m9_)) 9 rfl rfl (hon 9 (by kernel_rfl)) rfl
              rw [Q_X9_ (hon 9 (by kernel_rfl))] at e91
              replace ha := Aside0.mk ha
              have HBr := Aside0.mk Q_HBr
              have FX := Aside0.mk (Q_FX (hoff 12 (by kernel_rfl)))
              have RO83 := Aside0.mk (Q_RO83 hb_)
              have FU := Aside0.mk Q_FU
              have FT := Aside0.mk Q_FT
              have UB := Aside0.mk (Q_UB (hon 3 (by kernel_rfl)))
              have BL91 := Aside0.mk (Q_BL91 (hon 9 (by kernel_rfl)))
              have NE83_91 := Aside0.mk (Q_NE83_91 (hon 9 (by kernel_rfl)) hb_)
              refine Kd.R_append_rows_step (Kd.int .i64) (w0 := w) w.heap.size (by rfl) (.tmp 83) (.tmp 91) 26 3 _ _ rfl Tryd.underlying26 info3 rfl (by decide) (by decide) v83_ (xs) ([bt s i % th]) _ _ _ (fun _ => True) (fun _ => False) (by first | (go_simp; done) | (go_simp; rfl)) (by first | (go_simp; done) | (go_simp; rfl)) RO83.out (C_of_block (BL91.out) (Reps.cons (c := [_]) rfl rfl (Reps.none _ _)) (by simp)) (fun _ _ h => h) (fun _ h => h.elim) (fun _ _ => trivial) HBr.out (below_size HBr.out) ((by have := HXL.out; simp only [List.length_cons, List.length_nil]; omega)) ?_
              intro va_ w1 hR_ hB_ hg_ hat_
              refine hK.out _ _ ⟨g91_, va_, m9_, (by rw [ha.out]; exact putSel_upk 10 hb_ rfl rfl rfl), hB_, fun _ => blk_grownBy hg_ (Kd.R_ne RO83.out FX.out (by decide)) FX.out, fun h0_ => absurd ((up_self b 10).symm.trans h0_) (by decide), FU.out, fun h0_ => absurd ((hon 3 (by kernel_rfl)).symm.trans h0_) (by decide), R_other rfl FT.out hg_ (fun k_ hk_ e_ => R_apart (by decide) FT.out RO83.out k_ hk_ e_.symm), fun h0_ => absurd ((hoff 12 (by kernel_rfl)).symm.trans h0_) (by decide), fun _ => blk_grownBy hg_ (Kd.R_ne RO83.out UB.out (by decide)) UB.out, fun h_ => (hg_.block _ (blk_lt (Q_BL91 h_)) (Q_NE83_91 h_ hb_)).trans (Q_BL91 h_), fun _ => hR_, fun _ h1_ => absurd ((up_self b 10).symm.trans h1_) (by decide), Q_X9_⟩
            refine steps_cons ?_ ?_
            · rintro b a w' ⟨g91_, v92_, m9_, ha, Q_HBr, Q_FX, Q_RO83, Q_FU, Q_UA, Q_FT, Q_FXN, Q_UB, Q_BL91, Q_RO92, Q_NE83_91, Q_X9_⟩ hb_ hon hoff
              refine ⟨_, rfl, fun K hK => ?_⟩
              have e2 : a.tmps[2]? = some (.pointer (some ⟨x, 0, none⟩)) := by rw [ha]; exact (putSel_off rfl).trans rfl
              replace ha := Aside0.mk ha
              have HBr := Aside0.mk Q_HBr
              have FX := Aside0.mk (Q_FX (hoff 12 (by kernel_rfl)))
              have FU := Aside0.mk Q_FU
              have FT := Aside0.mk Q_FT
              have UB := Aside0.mk (Q_UB (hon 3 (by kernel_rfl)))
              have BL91 := Aside0.mk (Q_BL91 (hon 9 (by kernel_rfl)))
              have RO92 := Aside0.mk (Q_RO92 (hon 10 (by kernel_rfl)))
              refine value_ (w1 := w') (v := .pointer (some ⟨x, 6, none⟩)) ?cA ?cB ?_ ?_
              case cA => rfl
              case cB => rfl
              · go_simp
                (try simp only [i64_w])
                try rfl
              refine hK.out _ _ ⟨g91_, v92_, m9_, (by rw [ha.out]; exact putSel_upk 11 hb_ rfl rfl rfl), Q_HBr, Q_FX, fun h0_ => absurd ((hon 10 (by kernel_rfl)).symm.trans h0_) (by decide), Q_FU, fun h0_ => absurd ((hon 3 (by kernel_rfl)).symm.trans h0_) (by decide), Q_FT, fun h0_ => absurd ((hoff 12 (by kernel_rfl)).symm.trans h0_) (by decide), Q_UB, Q_BL91, Q_RO92, fun _ h1_ => absurd ((hon 10 (by kernel_rfl)).symm.trans h1_) (by decide), Q_X9_⟩
            refine steps_cons ?_ ?_
            · rintro b a w' ⟨g91_, v92_, m9_, ha, Q_HBr, Q_FX, Q_RO83, Q_FU, Q_UA, Q_FT, Q_FXN, Q_UB, Q_BL91, Q_RO92, Q_NE83_91, Q_X9_⟩ hb_ hon hoff
              refine ⟨_, rfl, fun K hK => ?_⟩
              have e93 : a.tmps[93]? = some (.pointer (some ⟨x, 6, none⟩)) := by rw [ha]; exact putSel_on (e := (11, 93, .pointer (some ⟨x, 6, none⟩))) 11 rfl rfl (hon 11 (by kernel_rfl)) rfl
              have e92 : a.tmps[92]? = some (v92_) := by rw [ha]; exact putSel_on (e := (10, 92, v92_)) 10 rfl rfl (hon 10 (by kernel_rfl)) rfl
              replace ha := Aside0.mk ha
              have HBr := Aside0.mk Q_HBr
              have FX := Aside0.mk (Q_FX hb_)
              have FU := Aside0.mk Q_FU
              have FT := Aside0.mk Q_FT
              have UB := Aside0.mk (Q_UB (hon 3 (by kernel_rfl)))
              have BL91 := Aside0.mk (Q_BL91 (hon 9 (by kernel_rfl)))
              have RO92 := Aside0.mk (Q_RO92 (hon 10 (by kernel_rfl)))
              obtain ⟨A_, c_, hv_⟩ := Kd.R_slice RO92.out
              refine blk_store_step (by rfl) rfl 26 93 (.tmp 92) rfl v92_ e93 (by first | (go_simp; done) | (go_simp; rfl)) (by rw [hv_]; rfl) (by kernel_rfl) (by rw [hv_]; rfl) FX.out (by simp) ?_
              refine hK.out _ _ ⟨g91_, v92_, m9_, (by rw [ha.out]; exact putSel_none (v := undef) rfl), bel_grown HBr.out (gb_set w' x 6 v92_) (fun k_ hk_ => by injection hk_ with hk_; rw [← hk_]; exact HXW.out) HBr.out.size, fun h0_ => absurd ((up_self b 12).symm.trans h0_) (by decide), fun h0_ => absurd ((hon 10 (by kernel_rfl)).symm.trans h0_) (by decide), FU.out, fun h0_ => absurd ((hon 3 (by kernel_rfl)).symm.trans h0_) (by decide), R_other rfl FT.out (gb_set w' x 6 v92_) (fun k_ hk_ e_ => Kd.R_ne FT.out FX.out (by decide) (e_.symm.trans hk_.symm)), fun _ => (heap_setCell_same _ _ _ _ _ _ FX.out).trans rfl, fun _ => urn_set UB.out x 6 hxu v92_, fun h_ => blk_set (Q_BL91 h_) (fun e_ => by subst e_; exact absurd ((Q_BL91 h_).symm.trans FX.out) (by simp)) _, fun _ => R_other rfl RO92.out (gb_set w' x 6 v92_) (fun k_ hk_ e_ => Kd.R_ne RO92.out FX.out (by decide) (e_.symm.trans hk_.symm)), fun _ h1_ => absurd ((hon 10 (by kernel_rfl)).symm.trans h1_) (by decide), Q_X9_⟩
            exact steps_nil
          rintro b a w' hall ⟨g91_, v92_, m9_, ha, Q_HBr, Q_FX, Q_RO83, Q_FU, Q_UA, Q_FT, Q_FXN, Q_UB, Q_BL91, Q_RO92, Q_NE83_91, Q_X9_⟩
          clear FT FU FX HBr RO83 UA
          have hb0_ := hall 0 (by kernel_rfl)
          have hb1_ := hall 1 (by kernel_rfl)
          have hb2_ := hall 2 (by kernel_rfl)
          have hb3_ := hall 3 (by kernel_rfl)
          have hb4_ := hall 4 (by kernel_rfl)
          have hb5_ := hall 5 (by kernel_rfl)
          have hb6_ := hall 6 (by kernel_rfl)
          have hb7_ := hall 7 (by kernel_rfl)
          have hb8_ := hall 8 (by kernel_rfl)
          have hb9_ := hall 9 (by kernel_rfl)
          have hb10_ := hall 10 (by kernel_rfl)
          have hb11_ := hall 11 (by kernel_rfl)
          have hb12_ := hall 12 (by kernel_rfl)
          subst ha
          obtain rfl := Q_X9_ hb9_
          simp only [putSel, hb0_, hb1_, hb2_, hb3_, hb4_, hb5_, hb6_, hb7_, hb8_, hb9_, hb10_, hb11_, hb12_, if_true, Act.put, List.setIfInBounds_toArray, List.set_cons_zero, List.set_cons_succ]
          have HBr := Aside0.mk Q_HBr
          clear Q_HBr
          clear Q_FX
          clear Q_RO83
          have FU := Aside0.mk Q_FU
          clear Q_FU
          clear Q_UA
          have FT := Aside0.mk Q_FT
          clear Q_FT
          have FXN := Aside0.mk (Q_FXN hb12_)
          clear Q_FXN
          have UB := Aside0.mk (Q_UB hb3_)
          clear Q_UB
          have BL91 := Aside0.mk (Q_BL91 hb9_)
          clear Q_BL91
          have RO92 := Aside0.mk (Q_RO92 hb10_)
          clear Q_RO92
          clear Q_NE83_91
          clear hall hb0_ hb1_ hb2_ hb3_ hb4_ hb5_ hb6_ hb7_ hb8_ hb9_ hb10_ hb11_ hb12_
          have hnew : picks s (6 + 4 * k) (j + 1) = xs ++ [bt s i % th] := by
            rw [picks_snoc, ← HXS.out, ← HI.out, HTO.out]
          have hi4 : i + 1 = 6 + 4 * k + (j + 1) := by have := HI.out; omega
          have hun2 := urnAt_eq UB.out
          have HNEW := Aside0.mk hnew
          clear hnew
          have HI4 := Aside0.mk hi4
          clear hi4
          have HUN2 := Aside0.mk hun2
          clear hun2
          go_wp2
          go_roundw
          case rel => exact ⟨j + 1, v92_, by omega, FXN.out, FT.out, by rw [HNEW.out]; exact RO92.out, by rw [← HI4.out]; exact UB.out, HBr.out⟩
          case measure => rw [HUN.out, HUN2.out]; omega
        · by_cases hi1 : i < s.size
          · have hj1 : j = 4096 := by have := HNP.out; omega
            have hi2 : (i : Int) < (s.size : Int) := by omega
            have hj2 : ¬ (j : Int) < 4096 := by omega
            obtain ⟨A56, c56, hv56⟩ := Kd.R_slice hT
            rw [tasks_length] at hv56
            have hv83 := HV.out
            have x0 := (blk_cell hX 0).trans rfl
            have x1 := (blk_cell hX 1).trans rfl
            have x2 := (blk_cell hX 2).trans rfl
            have x3 := (blk_cell hX 3).trans rfl
            have x4 := (blk_cell hX 4).trans rfl
            have x5 : wr.cell? ⟨x, 5, none⟩ = some (.slice A56 k c56) := (blk_cell hX 5).trans (by rw [hv56]; rfl)
            have f0 := frozen_of_row _ _ 0 _ _ hX
            have f1 := frozen_of_row _ _ 1 _ _ hX
            have f2 := frozen_of_row _ _ 2 _ _ hX
            have f3 := frozen_of_row _ _ 3 _ _ hX
            have f4 := frozen_of_row _ _ 4 _ _ hX
            have f5 := frozen_of_row _ _ 5 _ _ hX
            have f6 := frozen_of_row _ _ 6 _ _ hX
            have hnj : npick s = j := by omega
            clear hj1
            have FX := Aside0.mk hX
            have FT := Aside0.mk hT
            have FR := Aside0.mk hR
            have HB := Aside0.mk hB
            have HV56 := Aside0.mk hv56
            clear hv56
            have HNJ := Aside0.mk hnj
            clear hnj
            clear hX hT hR hB hU hi hl e5 hj hlt hv83
            have hf := store7 (show wr.heap[x]? = some (.cells #[.int .i64 st, .int .i64 en, .int .i64 th, .int .i64 sl, .int .i64 no, v56_, v83_] 28 (0, 0)) from FX.out) (.int .i64 st) (.int .i64 en) (.int .i64 th) (.int .i64 sl) (.int .i64 no) (.slice A56 k c56) (.slice A83 j c83)
            have HF := Aside0.mk hf
            clear hf
            go_wp2
            try simp only [Exit.inBlock, Exit.then]
            have hf := HF.out
            refine bodyPost_ret (v := .agg #[.int .i64 st, .int .i64 en, .int .i64 th, .int .i64 sl, .int .i64 no, .slice A56 k c56, .slice A83 j c83]) ?hres rfl ?_
            case hres =>
              refine results_single (r := .cell 2 28) rfl ?_
              refine .cell x 28 #[.int .i64 st, .int .i64 en, .int .i64 th, .int .i64 sl, .int .i64 no, .slice A56 k c56, .slice A83 j c83] (0, 0) _ ?ha ?hb Tryd.underlying28 rfl (by kernel_rfl) .nil
              case ha => rfl
              case hb => exact hf
            have hg := gb7 wr x (.int .i64 st) (.int .i64 en) (.int .i64 th) (.int .i64 sl) (.int .i64 no) (.slice A56 k c56) (.slice A83 j c83)
            have hT := R_other rfl FT.out hg (fun k_ hk_ e_ => Kd.R_ne FT.out FX.out (by decide) (e_.symm.trans hk_.symm))
            have hR := R_other rfl FR.out hg (fun k_ hk_ e_ => Kd.R_ne FR.out FX.out (by decide) (e_.symm.trans hk_.symm))
            rw [HV56.out] at hT
            rw [HV.out] at hR
            have sT := Sl_R hT
            have sR := Sl_R hR
            obtain ⟨A5, c5, e5, l5, C5⟩ := sT
            obtain ⟨A6, c6, e6, l6, C6⟩ := sR
            have hdec : dec s = ⟨⟨st, en, th, sl, no⟩, tasks s k, picks s (6 + 4 * k) j⟩ := by unfold dec; rw [HCFG.out, HCNT.out, HNJ.out]
            refine ⟨[.int .i64 st, .int .i64 en, .int .i64 th, .int .i64 sl, .int .i64 no, .slice A56 k c56, .slice A83 j c83], rfl, ?_, bel_grown HB.out hg (fun k_ hk_ => by injection hk_ with hk_; rw [← hk_]; exact HXW.out) HB.out.size⟩
            have hK := k28_mk _ ⟨⟨st, en, th, sl, no⟩, tasks s k, picks s (6 + 4 * k) j⟩ l5 C5 l6 C6
            rw [← e5, ← e6] at hK
            rw [hdec]
            exact hK
          · have hi2 : ¬ (i : Int) < (s.size : Int) := by omega
            obtain ⟨A56, c56, hv56⟩ := Kd.R_slice hT
            rw [tasks_length] at hv56
            have hv83 := HV.out
            have x0 := (blk_cell hX 0).trans rfl
            have x1 := (blk_cell hX 1).trans rfl
            have x2 := (blk_cell hX 2).trans rfl
            have x3 := (blk_cell hX 3).trans rfl
            have x4 := (blk_cell hX 4).trans rfl
            have x5 : wr.cell? ⟨x, 5, none⟩ = some (.slice A56 k c56) := (blk_cell hX 5).trans (by rw [hv56]; rfl)
            have f0 := frozen_of_row _ _ 0 _ _ hX
            have f1 := frozen_of_row _ _ 1 _ _ hX
            have f2 := frozen_of_row _ _ 2 _ _ hX
            have f3 := frozen_of_row _ _ 3 _ _ hX
            have f4 := frozen_of_row _ _ 4 _ _ hX
            have f5 := frozen_of_row _ _ 5 _ _ hX
            have f6 := frozen_of_row _ _ 6 _ _ hX
            have hnj : npick s = j := by have := HNP.out; omega
            have FX := Aside0.mk hX
            have FT := Aside0.mk hT
            have FR := Aside0.mk hR
            have HB := Aside0.mk hB
            have HV56 := Aside0.mk hv56
            clear hv56
            have HNJ := Aside0.mk hnj
            clear hnj
            clear hX hT hR hB hU hi hl e5 hj hlt hv83
            have hf := store7 (show wr.heap[x]? = some (.cells #[.int .i64 st, .int .i64 en, .int .i64 th, .int .i64 sl, .int .i64 no, v56_, v83_] 28 (0, 0)) from FX.out) (.int .i64 st) (.int .i64 en) (.int .i64 th) (.int .i64 sl) (.int .i64 no) (.slice A56 k c56) (.slice A83 j c83)
            have HF := Aside0.mk hf
            clear hf
            go_wp2
            try simp only [Exit.inBlock, Exit.then]
            have hf := HF.out
            refine bodyPost_ret (v := .agg #[.int .i64 st, .int .i64 en, .int .i64 th, .int .i64 sl, .int .i64 no, .slice A56 k c56, .slice A83 j c83]) ?hres rfl ?_
            case hres =>
              refine results_single (r := .cell 2 28) rfl ?_
              refine .cell x 28 #[.int .i64 st, .int .i64 en, .int .i64 th, .int .i64 sl, .int .i64 no, .slice A56 k c56, .slice A83 j c83] (0, 0) _ ?ha ?hb Tryd.underlying28 rfl (by kernel_rfl) .nil
              case ha => rfl
              case hb => exact hf
            have hg := gb7 wr x (.int .i64 st) (.int .i64 en) (.int .i64 th) (.int .i64 sl) (.int .i64 no) (.slice A56 k c56) (.slice A83 j c83)
            have hT := R_other rfl FT.out hg (fun k_ hk_ e_ => Kd.R_ne FT.out FX.out (by decide) (e_.symm.trans hk_.symm))
            have hR := R_other rfl FR.out hg (fun k_ hk_ e_ => Kd.R_ne FR.out FX.out (by decide) (e_.symm.trans hk_.symm))
            rw [HV56.out] at hT
            rw [HV.out] at hR
            have sT := Sl_R hT
            have sR := Sl_R hR
            obtain ⟨A5, c5, e5, l5, C5⟩ := sT
            obtain ⟨A6, c6, e6, l6, C6⟩ := sR
            have hdec : dec s = ⟨⟨st, en, th, sl, no⟩, tasks s k, picks s (6 + 4 * k) j⟩ := by unfold dec; rw [HCFG.out, HCNT.out, HNJ.out]
            refine ⟨[.int .i64 st, .int .i64 en, .int .i64 th, .int .i64 sl, .int .i64 no, .slice A56 k c56, .slice A83 j c83], rfl, ?_, bel_grown HB.out hg (fun k_ hk_ => by injection hk_ with hk_; rw [← hk_]; exact HXW.out) HB.out.size⟩
            have hK := k28_mk _ ⟨⟨st, en, th, sl, no⟩, tasks s k, picks s (6 + 4 * k) j⟩ l5 C5 l6 C6
            rw [← e5, ← e6] at hK
            rw [hdec]
            exact hK
end Go.Proofs.YtlcfkdglknkbdaaDoor.Lo
