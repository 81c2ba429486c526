/- BoardApart: place, name. -/
import Derived.Test.YtcnhjbpgjemnhaaDoorBdF
namespace Go.Proofs.YtcnhjbpgjemnhaaDoor.Bd
open Go.RowKit Go.Proofs.YtcnhjbpgjemnhaaDoorW.PrintWords Go.Proofs.YtcnhjbpgjemnhaaDoorW.PrintLast Go.Proofs.YtcnhjbpgjemnhaaDoorW.PrintMore Go.Proofs.YtcnhjbpgjemnhaaDoor.X
set_option linter.unusedVariables false
set_option linter.unusedSimpArgs false
attribute [local go_sem high] eqA25 eqA48 eqA50

/-- The kind of a thing, told by its first number. -/
def kindF (a : Int) : Int := IntKind.u64.wrap a % 4
theorem kind_tmod (a : Int) : (IntKind.u64.wrap a).tmod 4 = kindF a := Int.tmod_eq_emod_of_nonneg (by rw [IntKind.wrap_u64]; omega)
theorem kind_cases (a : Int) : kindF a = 0 ∨ kindF a = 1 ∨ kindF a = 2 ∨ kindF a = 3 := by
  unfold kindF
  have := Int.emod_nonneg (IntKind.u64.wrap a) (show (4 : Int) ≠ 0 by decide)
  have := Int.emod_lt_of_pos (IntKind.u64.wrap a) (show (0 : Int) < 4 by decide)
  omega
def nameF (a b c : Int) : Int × Int × Int := if kindF a = 0 then (0, 0, c) else if kindF a = 1 then (1, b, c) else if kindF a = 2 then (2, b, 0) else (3, 0, 0)
def placeF (a b c : Int) : Int := if kindF a = 0 then rootF c else if kindF a = 1 then keepF b c else if kindF a = 2 then spanF b else 24
theorem res_arr {fn : Func} {a : Act} {w : World} {g : Nat} {t : Tmp} {x0 x1 x2 : Value} (hres : fn.results = #[.cell t 22]) (ht : a.tmps[t]? = some (.pointer (some ⟨g, 0, none⟩)))
    (hx : w.heap[g]? = some (.cells #[x0, x1, x2] 22 (0, 0))) : (results fn a.tmps).run Tryd.prog w = .ok (.agg #[x0, x1, x2]) w := by
  have hu := Tryd.underlying22
  have hi : (Tryd.prog.info? 22).map (fun i => i.size) = some 3 := by kernel_rfl
  have y0 : w.cell? ⟨g, 0, none⟩ = some x0 := (blk_cell hx 0).trans rfl
  have y1 : w.cell? ⟨g, 1, none⟩ = some x1 := (blk_cell hx 1).trans rfl
  have y2 : w.cell? ⟨g, 2, none⟩ = some x2 := (blk_cell hx 2).trans rfl
  simp [results, hres, go_sem, ht, y0, y1, y2]
theorem nameF0 (a b c : Int) (h : kindF a = 0) : nameF a b c = (0, 0, c) := by rw [nameF, if_pos h]
theorem nameF1 (a b c : Int) (h : kindF a = 1) : nameF a b c = (1, b, c) := by rw [nameF, if_neg (by omega), if_pos h]
theorem nameF2 (a b c : Int) (h : kindF a = 2) : nameF a b c = (2, b, 0) := by rw [nameF, if_neg (by omega), if_neg (by omega), if_pos h]
theorem nameF3 (a b c : Int) (h : kindF a = 3) : nameF a b c = (3, 0, 0) := by rw [nameF, if_neg (by omega), if_neg (by omega), if_neg (by omega)]
theorem name_c (a b c : Int) (w : World) : Calls Tryd.prog 10 #[.agg #[.int .i64 a, .int .i64 b, .int .i64 c]] w fun e w' => e = .returned (.agg #[.int .i64 (nameF a b c).1, .int .i64 (nameF a b c).2.1, .int .i64 (nameF a b c).2.2]) ∧ Below w.heap.size w w' := by
  have hu := Tryd.underlying22
  have hk := kind_tmod a
  obtain h | h | h | h := kind_cases a
  · rw [nameF0 a b c h]
    rw [h] at hk
    clear h
    go_enter Tryd.func10, Tryd.ntmps10
    go_wp2
    refine bodyPost_ret (res_arr (x0 := .int .i64 0) (x1 := .int .i64 0) (x2 := .int .i64 c) Tryd.results10 rfl ?_) rfl ⟨rfl, below_alloc (below_alloc (Below.refl _ _) _) _⟩
    simpa using blk_new (w.alloc _) _
  · rw [nameF1 a b c h]
    rw [h] at hk
    clear h
    go_enter Tryd.func10, Tryd.ntmps10
    go_wp2
    refine bodyPost_ret (res_arr (x0 := .int .i64 1) (x1 := .int .i64 b) (x2 := .int .i64 c) Tryd.results10 rfl ?_) rfl ⟨rfl, below_alloc (below_alloc (Below.refl _ _) _) _⟩
    simpa using blk_new (w.alloc _) _
  · rw [nameF2 a b c h]
    rw [h] at hk
    clear h
    go_enter Tryd.func10, Tryd.ntmps10
    go_wp2
    refine bodyPost_ret (res_arr (x0 := .int .i64 2) (x1 := .int .i64 b) (x2 := .int .i64 0) Tryd.results10 rfl ?_) rfl ⟨rfl, below_alloc (below_alloc (Below.refl _ _) _) _⟩
    simpa using blk_new (w.alloc _) _
  · rw [nameF3 a b c h]
    rw [h] at hk
    clear h
    go_enter Tryd.func10, Tryd.ntmps10
    go_wp2
    refine bodyPost_ret (res_arr (x0 := .int .i64 3) (x1 := .int .i64 0) (x2 := .int .i64 0) Tryd.results10 rfl ?_) rfl ⟨rfl, below_alloc (below_alloc (Below.refl _ _) _) _⟩
    simpa using blk_new (w.alloc _) _
theorem placeF0 (a b c : Int) (h : kindF a = 0) : placeF a b c = rootF c := by rw [placeF, if_pos h]
theorem placeF1 (a b c : Int) (h : kindF a = 1) : placeF a b c = keepF b c := by rw [placeF, if_neg (by omega), if_pos h]
theorem placeF2 (a b c : Int) (h : kindF a = 2) : placeF a b c = spanF b := by rw [placeF, if_neg (by omega), if_neg (by omega), if_pos h]
theorem placeF3 (a b c : Int) (h : kindF a = 3) : placeF a b c = 24 := by rw [placeF, if_neg (by omega), if_neg (by omega), if_neg (by omega)]
theorem Right_set {w : World} {g : Nat} {cs : Array Value} {a : Addr} {m n : Int} {v : Value} (h : Right w a m v n) (hx : w.heap[g]? = some (.cells cs 25 (0, 0))) (x0 x1 x2 : Value) : Right (((w.setCell ⟨g, 0, none⟩ x0).setCell ⟨g, 1, none⟩ x1).setCell ⟨g, 2, none⟩ x2) a m v n := by
  rcases h with h | ⟨h1, h2, gv, pv, rfl, hgv⟩
  · exact .inl h
  · have hne : gv ≠ g := blk_ne hgv hx (by decide)
    exact .inr ⟨h1, h2, gv, pv, rfl, blk_far (blk_far (blk_far hgv hne _) hne _) hne _⟩
set_option maxHeartbeats 1000000 in
theorem place_s (a b c : Int) (aA : Addr) (w : World) (hA : w.cell? gArg = some (Sent aA)) : Calls Tryd.prog 9 #[.agg #[.int .i64 a, .int .i64 b, .int .i64 c]] w fun e w' => ∃ m v, e = .returned (.tuple #[fld m, v]) ∧ Right w' aA m v (placeF a b c) ∧ Below w.heap.size w w' := by
  have hu := Tryd.underlying22
  have hu2 := Tryd.underlying25
  have hk := kind_tmod a
  have hb0 := below_alloc (below_alloc (Below.refl w.heap.size w) (.cells #[.int .i64 a, .int .i64 b, .int .i64 c] 22)) (.cells #[.int .i64 0, .int .i64 0, .int .i64 0] 25)
  have hx : ((w.alloc (.cells #[.int .i64 a, .int .i64 b, .int .i64 c] 22)).alloc (.cells #[.int .i64 0, .int .i64 0, .int .i64 0] 25)).heap[w.heap.size + 1]? = some (.cells #[.int .i64 0, .int .i64 0, .int .i64 0] 25 (0, 0)) := by simpa using blk_new (w.alloc (.cells #[.int .i64 a, .int .i64 b, .int .i64 c] 22)) (.cells #[.int .i64 0, .int .i64 0, .int .i64 0] 25)
  have hA1 := pw_cell_below hb0 hA
  have hs : w.heap.size ≤ w.heap.size + 1 := by omega
  have HB0 := Aside0.mk hb0
  clear hb0
  have HX := Aside0.mk hx
  clear hx
  obtain h | h | h | h := kind_cases a
  · rw [placeF0 a b c h]
    rw [h] at hk
    clear h
    go_enter Tryd.func9, Tryd.ntmps9
    go_wp2_with fail
    refine (root_s c aA _ hA1).mono ?_
    rintro e w2 ⟨m, v, rfl, R, hb2⟩
    have hx := blk_below hb2 HX.out
    have hx0 := (blk_cell hx 0).trans rfl
    have hx1 := (blk_cell hx 1).trans rfl
    have hx2 := (blk_cell hx 2).trans rfl
    have hf0 := blk_frozen hx 0
    have hf1 := blk_frozen hx 1
    have hf2 := blk_frozen hx 2
    have hb := below_step HB0.out hb2
    go_wp2
    exact bodyPost_ret (res_addr (x0 := .int .i64 0) (x1 := .int .i64 0) (x2 := .int .i64 m) Tryd.results9 rfl rfl (blk_set (blk_set (blk_set hx 0 _) 1 _) 2 _)) rfl ⟨_, _, rfl, Right_set R hx _ _ _, below_set (below_set (below_set hb hs) hs) hs⟩
  · rw [placeF1 a b c h]
    rw [h] at hk
    clear h
    go_enter Tryd.func9, Tryd.ntmps9
    go_wp2_with fail
    refine (keep_s b c aA _ hA1).mono ?_
    rintro e w2 ⟨m, v, rfl, R, hb2⟩
    have hx := blk_below hb2 HX.out
    have hx0 := (blk_cell hx 0).trans rfl
    have hx1 := (blk_cell hx 1).trans rfl
    have hx2 := (blk_cell hx 2).trans rfl
    have hf0 := blk_frozen hx 0
    have hf1 := blk_frozen hx 1
    have hf2 := blk_frozen hx 2
    have hb := below_step HB0.out hb2
    go_wp2
    exact bodyPost_ret (res_addr (x0 := .int .i64 0) (x1 := .int .i64 0) (x2 := .int .i64 m) Tryd.results9 rfl rfl (blk_set (blk_set (blk_set hx 0 _) 1 _) 2 _)) rfl ⟨_, _, rfl, Right_set R hx _ _ _, below_set (below_set (below_set hb hs) hs) hs⟩
  · rw [placeF2 a b c h]
    rw [h] at hk
    clear h
    go_enter Tryd.func9, Tryd.ntmps9
    go_wp2_with fail
    refine (span_s b aA _ hA1).mono ?_
    rintro e w2 ⟨m, v, rfl, R, hb2⟩
    have hx := blk_below hb2 HX.out
    have hx0 := (blk_cell hx 0).trans rfl
    have hx1 := (blk_cell hx 1).trans rfl
    have hx2 := (blk_cell hx 2).trans rfl
    have hf0 := blk_frozen hx 0
    have hf1 := blk_frozen hx 1
    have hf2 := blk_frozen hx 2
    have hb := below_step HB0.out hb2
    go_wp2
    exact bodyPost_ret (res_addr (x0 := .int .i64 0) (x1 := .int .i64 0) (x2 := .int .i64 m) Tryd.results9 rfl rfl (blk_set (blk_set (blk_set hx 0 _) 1 _) 2 _)) rfl ⟨_, _, rfl, Right_set R hx _ _ _, below_set (below_set (below_set hb hs) hs) hs⟩
  · rw [placeF3 a b c h]
    rw [h] at hk
    clear h
    go_enter Tryd.func9, Tryd.ntmps9
    go_wp2_with fail
    refine (era_c _).mono ?_
    rintro e w2 ⟨rfl, hb2⟩
    have hx := blk_below hb2 HX.out
    have hx0 := (blk_cell hx 0).trans rfl
    have hx1 := (blk_cell hx 1).trans rfl
    have hx2 := (blk_cell hx 2).trans rfl
    have hf0 := blk_frozen hx 0
    have hf1 := blk_frozen hx 1
    have hf2 := blk_frozen hx 2
    have hb := below_step HB0.out hb2
    go_wp2
    exact bodyPost_ret (res_addr (x0 := .int .i64 0) (x1 := .int .i64 0) (x2 := .int .i64 24) Tryd.results9 rfl rfl (blk_set (blk_set (blk_set hx 0 _) 1 _) 2 _)) rfl ⟨_, _, rfl, .inl ⟨by decide, rfl, rfl⟩, below_set (below_set (below_set hb hs) hs) hs⟩
end Go.Proofs.YtcnhjbpgjemnhaaDoor.Bd
