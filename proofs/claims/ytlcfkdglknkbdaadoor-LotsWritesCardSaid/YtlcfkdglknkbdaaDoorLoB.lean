/- lots: an operation drawn from an urn. -/
import Derived.Test.YtlcfkdglknkbdaaDoorLoA
namespace Go.Proofs.YtlcfkdglknkbdaaDoor.Lo
open Go.RowKit Go.Proofs.YtlcfkdglknkbdaaDoorW.PrintWords Go.Proofs.YtlcfkdglknkbdaaDoorW.PrintLast Go.Proofs.YtlcfkdglknkbdaaDoorW.PrintMore Go.Proofs.YtlcfkdglknkbdaaDoor.X
set_option linter.unusedVariables false
set_option linter.unusedSimpArgs false

theorem gu_trans {u : Nat} {w w1 w2 : World} (h : w.grownBy w1 (some u)) (h1 : w1.grownBy w2 (some u)) : w.grownBy w2 (some u) :=
  ⟨h1.os.trans h.os, h1.tape.trans h.tape, h1.output.trans h.output, Nat.le_trans h.size h1.size, fun k hk hn => (h1.block k (Nat.lt_of_lt_of_le hk h.size) hn).trans (h.block k hk hn)⟩
theorem gu_below {u : Nat} {w w1 w2 : World} (h : w.grownBy w1 (some u)) (h1 : Below w1.heap.size w1 w2) : w.grownBy w2 (some u) :=
  ⟨h1.os.trans h.os, h1.tape.trans h.tape, h1.output.trans h.output, Nat.le_trans h.size h1.size, fun k hk hn => (h1.block k (Nat.lt_of_lt_of_le hk h.size)).trans (h.block k hk hn)⟩
theorem gu_set {u : Nat} {w w1 : World} (h : w.grownBy w1 (some u)) (k o : Nat) (hk : w.heap.size ≤ k) (v : Value) : w.grownBy (w1.setCell ⟨k, o, none⟩ v) (some u) := by
  obtain ⟨s1, s2, s3, s4⟩ := setCells_same k [v] o w1
  simp only [World.setCells] at s1 s2 s3 s4
  exact ⟨s1.trans h.os, s2.trans h.tape, s3.trans h.output, by rw [s4]; exact h.size, fun j hj hn => (setCells_far [v] o j (by omega)).trans (h.block j hj hn)⟩
theorem gu_refl (u : Nat) (w : World) : w.grownBy w (some u) := ⟨rfl, rfl, rfl, Nat.le_refl _, fun _ _ _ => rfl⟩
theorem urn_set {w : World} {u : Nat} {s : ByteArray} {i : Nat} (h : Urn w u s i) (k o : Nat) (hk : u ≠ k) (v : Value) : Urn (w.setCell ⟨k, o, none⟩ v) u s i := (setCells_far [v] o u hk).trans h
theorem urn_lt {w : World} {u : Nat} {s : ByteArray} {i : Nat} (h : Urn w u s i) : u < w.heap.size := blk_lt h
theorem store4 {w : World} {r : Nat} {a b c d : Value} {t : TypeId} (h : w.heap[r]? = some (.cells #[a, b, c, d] t (0, 0))) (v0 v1 v2 v3 : Value) :
    ((((w.setCell ⟨r, 0, none⟩ v0).setCell ⟨r, 1, none⟩ v1).setCell ⟨r, 2, none⟩ v2).setCell ⟨r, 3, none⟩ v3).heap[r]? = some (.cells #[v0, v1, v2, v3] t (0, 0)) := by
  have h0 := heap_setCell_same w r 0 _ t v0 h
  have h1 := heap_setCell_same _ r 1 _ t v1 h0
  have h2 := heap_setCell_same _ r 2 _ t v2 h1
  have h3 := heap_setCell_same _ r 3 _ t v3 h2
  rw [h3]
  rfl
theorem blk_set {w : World} {g k o : Nat} {ob : Obj} (h : w.heap[g]? = some ob) (hk : g ≠ k) (v : Value) : (w.setCell ⟨k, o, none⟩ v).heap[g]? = some ob := (setCells_far [v] o g hk).trans h
theorem kinds_1 (w : World) : Calls Tryd.prog 25 #[.int .i64 1] w fun e w' => ∃ g, e = .returned (.slice (some ⟨g, 0, none⟩) 3 3) ∧ w.heap.size ≤ g ∧ w'.heap[g]? = some (.cells #[.int .i64 1, .int .i64 2, .int .i64 3] 3 (0, 0)) ∧ Below w.heap.size w w' := by
  go_enter Tryd.func25, Tryd.ntmps25
  go_wp2
  go_ret
  exact ⟨_, rfl, Nat.le_refl _, blk_new _ _, below_alloc (Below.refl _ _) _⟩
theorem kinds_2 (w : World) : Calls Tryd.prog 25 #[.int .i64 2] w fun e w' => ∃ g, e = .returned (.slice (some ⟨g, 0, none⟩) 2 2) ∧ w.heap.size ≤ g ∧ w'.heap[g]? = some (.cells #[.int .i64 4, .int .i64 5] 3 (0, 0)) ∧ Below w.heap.size w w' := by
  go_enter Tryd.func25, Tryd.ntmps25
  go_wp2
  go_ret
  exact ⟨_, rfl, Nat.le_refl _, blk_new _ _, below_alloc (Below.refl _ _) _⟩
theorem kinds_3 (st : Int) (h : st = 3 ∨ st = 4 ∨ st = 5) (w : World) : Calls Tryd.prog 25 #[.int .i64 st] w fun e w' => ∃ g, e = .returned (.slice (some ⟨g, 0, none⟩) 3 3) ∧ w.heap.size ≤ g ∧ w'.heap[g]? = some (.cells #[.int .i64 6, .int .i64 7, .int .i64 8] 3 (0, 0)) ∧ Below w.heap.size w w' := by
  rcases h with rfl | rfl | rfl
  all_goals
    go_enter Tryd.func25, Tryd.ntmps25
    go_wp2
    go_ret
    exact ⟨_, rfl, Nat.le_refl _, blk_new _ _, below_alloc (Below.refl _ _) _⟩
/-- The operation of kind k with the bytes x, y. -/
def mkOp (st k x y : Int) : S35 :=
  if k = 1 ∨ k = 4 then ⟨k, 0, 256 * x + y, 0⟩
  else if k = 6 then ⟨6, x, y, if st = 5 then y % 3 + 1 else 0⟩
  else if k = 7 ∨ k = 8 then ⟨k, x, 0, 0⟩
  else ⟨k, 0, 0, 0⟩
/-- The kind that byte b says. -/
def kindOf (st b : Int) : Int := if st = 1 then 1 + b % 3 else if st = 2 then 4 + b % 2 else 6 + b % 3
def opAt (st : Int) (s : ByteArray) (i : Nat) : S35 := mkOp st (kindOf st (bt s i)) (bt s (i + 1)) (bt s (i + 2))
set_option maxHeartbeats 1000000 in
set_option maxRecDepth 100000 in
theorem op_1 (u : Nat) (s : ByteArray) (i : Nat) (st : Int) (hst : st = 1) (w : World) (hi : i < 900000) (hs : s.size < 1000000) (h : Urn w u s i) :
    Calls Tryd.prog 21 #[.pointer (some ⟨u, 0, none⟩), .int .i64 st] w fun e w' => e = .returned (v35 (opAt st s i)) ∧ Urn w' u s (i + 3) ∧ w.grownBy w' (some u) := by
  have hu := urn_lt h
  have hx := bt_nonneg s (i + 1)
  have hx2 := bt_lt s (i + 1)
  have hy := bt_nonneg s (i + 1 + 1)
  have hy2 := bt_lt s (i + 1 + 1)
  have hz := bt_nonneg s i
  have hb0 := below_alloc (Below.refl w.heap.size w) (.cells #[.int .i64 0, .int .i64 0, .int .i64 0, .int .i64 0] 35)
  have hr0 := blk_new w (.cells #[.int .i64 0, .int .i64 0, .int .i64 0, .int .i64 0] 35)
  have hu0 : Urn _ u s i := blk_below hb0 h
  obtain ⟨wA, hwA⟩ : ∃ wA, wA = w.alloc (.cells #[.int .i64 0, .int .i64 0, .int .i64 0, .int .i64 0] 35) := ⟨_, rfl⟩
  rw [← hwA] at hb0 hr0 hu0
  have hsm : wrap64 (256 * bt s (i + 1) + bt s (i + 1 + 1)) = 256 * bt s (i + 1) + bt s (i + 1 + 1) := by unfold wrap64; omega
  have hym : (bt s (i + 1 + 1)).tmod 3 = bt s (i + 1 + 1) % 3 := Int.tmod_eq_emod_of_nonneg hy
  have hym0 : 0 ≤ bt s (i + 1 + 1) % 3 := by omega
  have hym3 : bt s (i + 1 + 1) % 3 < 3 := by omega
  have hur : u ≠ w.heap.size := by omega
  subst hst
  have hk := kinds_1 wA
  have hkind : opAt 1 s i = mkOp 1 (1 + (bt s i) % 3) (bt s (i + 1)) (bt s (i + 2)) := by rfl
  have htm : (bt s i).tmod 3 = (bt s i) % 3 := Int.tmod_eq_emod_of_nonneg hz
  have hcs : (bt s i) % 3 = 0 ∨ (bt s i) % 3 = 1 ∨ (bt s i) % 3 = 2 := by omega
  have HB0 := Aside0.mk hb0
  clear hb0
  have HR0 := Aside0.mk hr0
  clear hr0
  have HU0 := Aside0.mk hu0
  clear hu0
  have HK := Aside0.mk hk
  clear hk
  have HKIND := Aside0.mk hkind
  clear hkind
  clear h
  go_enter Tryd.func21, Tryd.ntmps21
  go_wp2_with fail
  rw [← hwA]
  refine HK.out.mono ?_
  rintro e wB ⟨g, rfl, hg1, hg2, hb⟩
  have hgu : u ≠ g := by have := hb.size; have := HB0.out.size; omega
  have hgW : w.heap.size ≤ g := Nat.le_trans HB0.out.size hg1
  have hrB := blk_below hb HR0.out
  have huB : Urn wB u s i := blk_below hb HU0.out
  have hgu0 := gu_below (gu_below (gu_refl u w) HB0.out) hb
  clear HK hb HB0 HR0 HU0
  have hd1 := draw_c u s i wB (by omega) hs huB
  have HD1 := Aside0.mk hd1
  clear hd1
  have HG2 := Aside0.mk hg2
  clear hg2
  have HRB := Aside0.mk hrB
  clear hrB
  have HGU0 := Aside0.mk hgu0
  clear hgu0
  clear huB
  go_wp2_with fail
  refine HD1.out.mono ?_
  rintro e wC ⟨rfl, huC, hg⟩
  have hrC := blk_grownBy hg (fun e => hur (by injection e with e; exact e.symm)) HRB.out
  have hgC := blk_grownBy hg (fun e => hgu (by injection e with e; exact e.symm)) HG2.out
  replace HGU0 := Aside0.mk (gu_trans HGU0.out hg)
  have c0 := (blk_cell hgC 0).trans rfl
  have c1 := (blk_cell hgC 1).trans rfl
  have c2 := (blk_cell hgC 2).trans rfl
  have hult := urn_lt huC
  have hrlt := blk_lt hrC
  have HUC := Aside0.mk huC
  clear huC
  have HRC := Aside0.mk hrC
  clear hrC
  have HGC := Aside0.mk hgC
  clear hgC
  have HRLT := Aside0.mk hrlt
  clear hrlt
  clear HG2 HRB HD1 hg
  rw [← htm] at hcs
  rcases hcs with hcs | hcs | hcs
  · have hop : opAt 1 s i = ⟨1, 0, 256 * bt s (i + 1) + bt s (i + 2), 0⟩ := by rw [HKIND.out, ← htm, hcs]; exact rfl
    have HOP := Aside0.mk hop
    clear hop
    clear HKIND htm
    go_wp2_with fail
    have hO := blk_new wC (.cells #[.int .i64 1, .int .i64 0, .int .i64 0, .int .i64 0] 35)
    have hb0 := below_alloc (Below.refl wC.heap.size wC) (.cells #[.int .i64 1, .int .i64 0, .int .i64 0, .int .i64 0] 35)
    obtain ⟨wD, hwD⟩ : ∃ wD, wD = wC.alloc (.cells #[.int .i64 1, .int .i64 0, .int .i64 0, .int .i64 0] 35) := ⟨_, rfl⟩
    obtain ⟨o, ho⟩ : ∃ o, o = wC.heap.size := ⟨_, rfl⟩
    rw [← hwD] at hO hb0 ⊢
    rw [← ho] at hO hult ⊢
    have hoW : w.heap.size ≤ o := by rw [ho]; exact HGU0.out.size
    have hou : u ≠ o := by omega
    have hoW2 : ¬ o = w.heap.size := by have := HRLT.out; omega
    have hrD := blk_below hb0 HRC.out
    have huD : Urn wD u s (i + 1) := blk_below hb0 HUC.out
    replace HGU0 := Aside0.mk (gu_below HGU0.out hb0)
    have hd2 := draw_c u s (i + 1) wD (by omega) hs huD
    have HD2 := Aside0.mk hd2
    clear hd2
    have HO := Aside0.mk hO
    clear hO
    have HRD := Aside0.mk hrD
    clear hrD
    clear hwD ho hb0 huD HRC HUC HGC
    refine HD2.out.mono ?_
    rintro e wE ⟨rfl, huE, hg⟩
    have hrE := blk_grownBy hg (fun e => hur (by injection e with e; exact e.symm)) HRD.out
    have hoE := blk_grownBy hg (fun e => hou (by injection e with e; exact e.symm)) HO.out
    replace HGU0 := Aside0.mk (gu_trans HGU0.out hg)
    have hd3 := draw_c u s (i + 1 + 1) wE (by omega) hs huE
    have HD3 := Aside0.mk hd3
    clear hd3
    have HRE := Aside0.mk hrE
    clear hrE
    have HOE := Aside0.mk hoE
    clear hoE
    clear HD2 HRD HO huE hg
    go_wp2_with fail
    refine HD3.out.mono ?_
    rintro e wF ⟨rfl, huF, hg⟩
    have hrF := blk_grownBy hg (fun e => hur (by injection e with e; exact e.symm)) HRE.out
    have hoF := blk_grownBy hg (fun e => hou (by injection e with e; exact e.symm)) HOE.out
    replace HGU0 := Aside0.mk (gu_trans HGU0.out hg)
    have o0 := (blk_cell hoF 0).trans rfl
    have o1 := (blk_cell hoF 1).trans rfl
    have o2 := (blk_cell hoF 2).trans rfl
    have o3 := (blk_cell hoF 3).trans rfl
    have p1 := frozen_of_row _ _ 1 _ _ hoF
    have p2 := frozen_of_row _ _ 2 _ _ hoF
    have p3 := frozen_of_row _ _ 3 _ _ hoF
    have r0 := (blk_cell hrF 0).trans rfl
    have r1 := (blk_cell hrF 1).trans rfl
    have r2 := (blk_cell hrF 2).trans rfl
    have r3 := (blk_cell hrF 3).trans rfl
    have f0 := frozen_of_row _ _ 0 _ _ hrF
    have f1 := frozen_of_row _ _ 1 _ _ hrF
    have f2 := frozen_of_row _ _ 2 _ _ hrF
    have f3 := frozen_of_row _ _ 3 _ _ hrF
    have hor : ¬ o = w.heap.size := hoW2
    have HUF := Aside0.mk huF
    clear huF
    have HRF := Aside0.mk hrF
    clear hrF
    have HOF := Aside0.mk hoF
    clear hoF
    clear HD3 HRE HOE hg hwA hg1 hu hz c0 c1 c2 hcs hult hgu hgW
    obtain ⟨r, hr⟩ : ∃ r, r = w.heap.size := ⟨_, rfl⟩
    rw [← hr] at r0 r1 r2 r3 f0 f1 f2 f3 hor ⊢
    have HR := Aside0.mk hr
    clear hr
    go_wp2
    have hrF := HRF.out
    rw [← HR.out] at hrF
    have hro : r ≠ o := fun e => hor e.symm
    rw [← HR.out] at hur
    try simp only [Exit.inBlock, Exit.then]
    refine bodyPost_ret (results_single rfl (.cell r 35 _ (0, 0) _ rfl (store4 (blk_set (hrF) hro _) _ _ _ _) Tryd.underlying35 rfl (by kernel_rfl) .nil)) rfl ?_
    refine ⟨by rw [HOP.out], ?_, ?_⟩
    · exact urn_set (urn_set (urn_set (urn_set (urn_set (HUF.out) o 2 hou _) r 0 hur _) r 1 hur _) r 2 hur _) r 3 hur _
    · have hrW : w.heap.size ≤ r := by rw [HR.out]; exact Nat.le_refl _
      exact gu_set (gu_set (gu_set (gu_set (gu_set (HGU0.out) o 2 hoW _) r 0 hrW _) r 1 hrW _) r 2 hrW _) r 3 hrW _
  · have hop : opAt 1 s i = ⟨2, 0, 0, 0⟩ := by rw [HKIND.out, ← htm, hcs]; exact rfl
    have HOP := Aside0.mk hop
    clear hop
    clear HKIND htm
    go_wp2_with fail
    have hO := blk_new wC (.cells #[.int .i64 2, .int .i64 0, .int .i64 0, .int .i64 0] 35)
    have hb0 := below_alloc (Below.refl wC.heap.size wC) (.cells #[.int .i64 2, .int .i64 0, .int .i64 0, .int .i64 0] 35)
    obtain ⟨wD, hwD⟩ : ∃ wD, wD = wC.alloc (.cells #[.int .i64 2, .int .i64 0, .int .i64 0, .int .i64 0] 35) := ⟨_, rfl⟩
    obtain ⟨o, ho⟩ : ∃ o, o = wC.heap.size := ⟨_, rfl⟩
    rw [← hwD] at hO hb0 ⊢
    rw [← ho] at hO hult ⊢
    have hoW : w.heap.size ≤ o := by rw [ho]; exact HGU0.out.size
    have hou : u ≠ o := by omega
    have hoW2 : ¬ o = w.heap.size := by have := HRLT.out; omega
    have hrD := blk_below hb0 HRC.out
    have huD : Urn wD u s (i + 1) := blk_below hb0 HUC.out
    replace HGU0 := Aside0.mk (gu_below HGU0.out hb0)
    have hd2 := draw_c u s (i + 1) wD (by omega) hs huD
    have HD2 := Aside0.mk hd2
    clear hd2
    have HO := Aside0.mk hO
    clear hO
    have HRD := Aside0.mk hrD
    clear hrD
    clear hwD ho hb0 huD HRC HUC HGC
    refine HD2.out.mono ?_
    rintro e wE ⟨rfl, huE, hg⟩
    have hrE := blk_grownBy hg (fun e => hur (by injection e with e; exact e.symm)) HRD.out
    have hoE := blk_grownBy hg (fun e => hou (by injection e with e; exact e.symm)) HO.out
    replace HGU0 := Aside0.mk (gu_trans HGU0.out hg)
    have hd3 := draw_c u s (i + 1 + 1) wE (by omega) hs huE
    have HD3 := Aside0.mk hd3
    clear hd3
    have HRE := Aside0.mk hrE
    clear hrE
    have HOE := Aside0.mk hoE
    clear hoE
    clear HD2 HRD HO huE hg
    go_wp2_with fail
    refine HD3.out.mono ?_
    rintro e wF ⟨rfl, huF, hg⟩
    have hrF := blk_grownBy hg (fun e => hur (by injection e with e; exact e.symm)) HRE.out
    have hoF := blk_grownBy hg (fun e => hou (by injection e with e; exact e.symm)) HOE.out
    replace HGU0 := Aside0.mk (gu_trans HGU0.out hg)
    have o0 := (blk_cell hoF 0).trans rfl
    have o1 := (blk_cell hoF 1).trans rfl
    have o2 := (blk_cell hoF 2).trans rfl
    have o3 := (blk_cell hoF 3).trans rfl
    have p1 := frozen_of_row _ _ 1 _ _ hoF
    have p2 := frozen_of_row _ _ 2 _ _ hoF
    have p3 := frozen_of_row _ _ 3 _ _ hoF
    have r0 := (blk_cell hrF 0).trans rfl
    have r1 := (blk_cell hrF 1).trans rfl
    have r2 := (blk_cell hrF 2).trans rfl
    have r3 := (blk_cell hrF 3).trans rfl
    have f0 := frozen_of_row _ _ 0 _ _ hrF
    have f1 := frozen_of_row _ _ 1 _ _ hrF
    have f2 := frozen_of_row _ _ 2 _ _ hrF
    have f3 := frozen_of_row _ _ 3 _ _ hrF
    have hor : ¬ o = w.heap.size := hoW2
    have HUF := Aside0.mk huF
    clear huF
    have HRF := Aside0.mk hrF
    clear hrF
    have HOF := Aside0.mk hoF
    clear hoF
    clear HD3 HRE HOE hg hwA hg1 hu hz c0 c1 c2 hcs hult hgu hgW
    obtain ⟨r, hr⟩ : ∃ r, r = w.heap.size := ⟨_, rfl⟩
    rw [← hr] at r0 r1 r2 r3 f0 f1 f2 f3 hor ⊢
    have HR := Aside0.mk hr
    clear hr
    go_wp2
    have hrF := HRF.out
    rw [← HR.out] at hrF
    have hro : r ≠ o := fun e => hor e.symm
    rw [← HR.out] at hur
    try simp only [Exit.inBlock, Exit.then]
    refine bodyPost_ret (results_single rfl (.cell r 35 _ (0, 0) _ rfl (store4 (hrF) _ _ _ _) Tryd.underlying35 rfl (by kernel_rfl) .nil)) rfl ?_
    refine ⟨by rw [HOP.out], ?_, ?_⟩
    · exact urn_set (urn_set (urn_set (urn_set (HUF.out) r 0 hur _) r 1 hur _) r 2 hur _) r 3 hur _
    · have hrW : w.heap.size ≤ r := by rw [HR.out]; exact Nat.le_refl _
      exact gu_set (gu_set (gu_set (gu_set (HGU0.out) r 0 hrW _) r 1 hrW _) r 2 hrW _) r 3 hrW _
  · have hop : opAt 1 s i = ⟨3, 0, 0, 0⟩ := by rw [HKIND.out, ← htm, hcs]; exact rfl
    have HOP := Aside0.mk hop
    clear hop
    clear HKIND htm
    go_wp2_with fail
    have hO := blk_new wC (.cells #[.int .i64 3, .int .i64 0, .int .i64 0, .int .i64 0] 35)
    have hb0 := below_alloc (Below.refl wC.heap.size wC) (.cells #[.int .i64 3, .int .i64 0, .int .i64 0, .int .i64 0] 35)
    obtain ⟨wD, hwD⟩ : ∃ wD, wD = wC.alloc (.cells #[.int .i64 3, .int .i64 0, .int .i64 0, .int .i64 0] 35) := ⟨_, rfl⟩
    obtain ⟨o, ho⟩ : ∃ o, o = wC.heap.size := ⟨_, rfl⟩
    rw [← hwD] at hO hb0 ⊢
    rw [← ho] at hO hult ⊢
    have hoW : w.heap.size ≤ o := by rw [ho]; exact HGU0.out.size
    have hou : u ≠ o := by omega
    have hoW2 : ¬ o = w.heap.size := by have := HRLT.out; omega
    have hrD := blk_below hb0 HRC.out
    have huD : Urn wD u s (i + 1) := blk_below hb0 HUC.out
    replace HGU0 := Aside0.mk (gu_below HGU0.out hb0)
    have hd2 := draw_c u s (i + 1) wD (by omega) hs huD
    have HD2 := Aside0.mk hd2
    clear hd2
    have HO := Aside0.mk hO
    clear hO
    have HRD := Aside0.mk hrD
    clear hrD
    clear hwD ho hb0 huD HRC HUC HGC
    refine HD2.out.mono ?_
    rintro e wE ⟨rfl, huE, hg⟩
    have hrE := blk_grownBy hg (fun e => hur (by injection e with e; exact e.symm)) HRD.out
    have hoE := blk_grownBy hg (fun e => hou (by injection e with e; exact e.symm)) HO.out
    replace HGU0 := Aside0.mk (gu_trans HGU0.out hg)
    have hd3 := draw_c u s (i + 1 + 1) wE (by omega) hs huE
    have HD3 := Aside0.mk hd3
    clear hd3
    have HRE := Aside0.mk hrE
    clear hrE
    have HOE := Aside0.mk hoE
    clear hoE
    clear HD2 HRD HO huE hg
    go_wp2_with fail
    refine HD3.out.mono ?_
    rintro e wF ⟨rfl, huF, hg⟩
    have hrF := blk_grownBy hg (fun e => hur (by injection e with e; exact e.symm)) HRE.out
    have hoF := blk_grownBy hg (fun e => hou (by injection e with e; exact e.symm)) HOE.out
    replace HGU0 := Aside0.mk (gu_trans HGU0.out hg)
    have o0 := (blk_cell hoF 0).trans rfl
    have o1 := (blk_cell hoF 1).trans rfl
    have o2 := (blk_cell hoF 2).trans rfl
    have o3 := (blk_cell hoF 3).trans rfl
    have p1 := frozen_of_row _ _ 1 _ _ hoF
    have p2 := frozen_of_row _ _ 2 _ _ hoF
    have p3 := frozen_of_row _ _ 3 _ _ hoF
    have r0 := (blk_cell hrF 0).trans rfl
    have r1 := (blk_cell hrF 1).trans rfl
    have r2 := (blk_cell hrF 2).trans rfl
    have r3 := (blk_cell hrF 3).trans rfl
    have f0 := frozen_of_row _ _ 0 _ _ hrF
    have f1 := frozen_of_row _ _ 1 _ _ hrF
    have f2 := frozen_of_row _ _ 2 _ _ hrF
    have f3 := frozen_of_row _ _ 3 _ _ hrF
    have hor : ¬ o = w.heap.size := hoW2
    have HUF := Aside0.mk huF
    clear huF
    have HRF := Aside0.mk hrF
    clear hrF
    have HOF := Aside0.mk hoF
    clear hoF
    clear HD3 HRE HOE hg hwA hg1 hu hz c0 c1 c2 hcs hult hgu hgW
    obtain ⟨r, hr⟩ : ∃ r, r = w.heap.size := ⟨_, rfl⟩
    rw [← hr] at r0 r1 r2 r3 f0 f1 f2 f3 hor ⊢
    have HR := Aside0.mk hr
    clear hr
    go_wp2
    have hrF := HRF.out
    rw [← HR.out] at hrF
    have hro : r ≠ o := fun e => hor e.symm
    rw [← HR.out] at hur
    try simp only [Exit.inBlock, Exit.then]
    refine bodyPost_ret (results_single rfl (.cell r 35 _ (0, 0) _ rfl (store4 (hrF) _ _ _ _) Tryd.underlying35 rfl (by kernel_rfl) .nil)) rfl ?_
    refine ⟨by rw [HOP.out], ?_, ?_⟩
    · exact urn_set (urn_set (urn_set (urn_set (HUF.out) r 0 hur _) r 1 hur _) r 2 hur _) r 3 hur _
    · have hrW : w.heap.size ≤ r := by rw [HR.out]; exact Nat.le_refl _
      exact gu_set (gu_set (gu_set (gu_set (HGU0.out) r 0 hrW _) r 1 hrW _) r 2 hrW _) r 3 hrW _
set_option maxHeartbeats 1000000 in
set_option maxRecDepth 100000 in
theorem op_2 (u : Nat) (s : ByteArray) (i : Nat) (st : Int) (hst : st = 2) (w : World) (hi : i < 900000) (hs : s.size < 1000000) (h : Urn w u s i) :
    Calls Tryd.prog 21 #[.pointer (some ⟨u, 0, none⟩), .int .i64 st] w fun e w' => e = .returned (v35 (opAt st s i)) ∧ Urn w' u s (i + 3) ∧ w.grownBy w' (some u) := by
  have hu := urn_lt h
  have hx := bt_nonneg s (i + 1)
  have hx2 := bt_lt s (i + 1)
  have hy := bt_nonneg s (i + 1 + 1)
  have hy2 := bt_lt s (i + 1 + 1)
  have hz := bt_nonneg s i
  have hb0 := below_alloc (Below.refl w.heap.size w) (.cells #[.int .i64 0, .int .i64 0, .int .i64 0, .int .i64 0] 35)
  have hr0 := blk_new w (.cells #[.int .i64 0, .int .i64 0, .int .i64 0, .int .i64 0] 35)
  have hu0 : Urn _ u s i := blk_below hb0 h
  obtain ⟨wA, hwA⟩ : ∃ wA, wA = w.alloc (.cells #[.int .i64 0, .int .i64 0, .int .i64 0, .int .i64 0] 35) := ⟨_, rfl⟩
  rw [← hwA] at hb0 hr0 hu0
  have hsm : wrap64 (256 * bt s (i + 1) + bt s (i + 1 + 1)) = 256 * bt s (i + 1) + bt s (i + 1 + 1) := by unfold wrap64; omega
  have hym : (bt s (i + 1 + 1)).tmod 3 = bt s (i + 1 + 1) % 3 := Int.tmod_eq_emod_of_nonneg hy
  have hym0 : 0 ≤ bt s (i + 1 + 1) % 3 := by omega
  have hym3 : bt s (i + 1 + 1) % 3 < 3 := by omega
  have hur : u ≠ w.heap.size := by omega
  subst hst
  have hk := kinds_2 wA
  have hkind : opAt 2 s i = mkOp 2 (4 + (bt s i) % 2) (bt s (i + 1)) (bt s (i + 2)) := by rfl
  have htm : (bt s i).tmod 2 = (bt s i) % 2 := Int.tmod_eq_emod_of_nonneg hz
  have hcs : (bt s i) % 2 = 0 ∨ (bt s i) % 2 = 1 := by omega
  have HB0 := Aside0.mk hb0
  clear hb0
  have HR0 := Aside0.mk hr0
  clear hr0
  have HU0 := Aside0.mk hu0
  clear hu0
  have HK := Aside0.mk hk
  clear hk
  have HKIND := Aside0.mk hkind
  clear hkind
  clear h
  go_enter Tryd.func21, Tryd.ntmps21
  go_wp2_with fail
  rw [← hwA]
  refine HK.out.mono ?_
  rintro e wB ⟨g, rfl, hg1, hg2, hb⟩
  have hgu : u ≠ g := by have := hb.size; have := HB0.out.size; omega
  have hgW : w.heap.size ≤ g := Nat.le_trans HB0.out.size hg1
  have hrB := blk_below hb HR0.out
  have huB : Urn wB u s i := blk_below hb HU0.out
  have hgu0 := gu_below (gu_below (gu_refl u w) HB0.out) hb
  clear HK hb HB0 HR0 HU0
  have hd1 := draw_c u s i wB (by omega) hs huB
  have HD1 := Aside0.mk hd1
  clear hd1
  have HG2 := Aside0.mk hg2
  clear hg2
  have HRB := Aside0.mk hrB
  clear hrB
  have HGU0 := Aside0.mk hgu0
  clear hgu0
  clear huB
  go_wp2_with fail
  refine HD1.out.mono ?_
  rintro e wC ⟨rfl, huC, hg⟩
  have hrC := blk_grownBy hg (fun e => hur (by injection e with e; exact e.symm)) HRB.out
  have hgC := blk_grownBy hg (fun e => hgu (by injection e with e; exact e.symm)) HG2.out
  replace HGU0 := Aside0.mk (gu_trans HGU0.out hg)
  have c0 := (blk_cell hgC 0).trans rfl
  have c1 := (blk_cell hgC 1).trans rfl
  have hult := urn_lt huC
  have hrlt := blk_lt hrC
  have HUC := Aside0.mk huC
  clear huC
  have HRC := Aside0.mk hrC
  clear hrC
  have HGC := Aside0.mk hgC
  clear hgC
  have HRLT := Aside0.mk hrlt
  clear hrlt
  clear HG2 HRB HD1 hg
  rw [← htm] at hcs
  rcases hcs with hcs | hcs
  · have hop : opAt 2 s i = ⟨4, 0, 256 * bt s (i + 1) + bt s (i + 2), 0⟩ := by rw [HKIND.out, ← htm, hcs]; exact rfl
    have HOP := Aside0.mk hop
    clear hop
    clear HKIND htm
    go_wp2_with fail
    have hO := blk_new wC (.cells #[.int .i64 4, .int .i64 0, .int .i64 0, .int .i64 0] 35)
    have hb0 := below_alloc (Below.refl wC.heap.size wC) (.cells #[.int .i64 4, .int .i64 0, .int .i64 0, .int .i64 0] 35)
    obtain ⟨wD, hwD⟩ : ∃ wD, wD = wC.alloc (.cells #[.int .i64 4, .int .i64 0, .int .i64 0, .int .i64 0] 35) := ⟨_, rfl⟩
    obtain ⟨o, ho⟩ : ∃ o, o = wC.heap.size := ⟨_, rfl⟩
    rw [← hwD] at hO hb0 ⊢
    rw [← ho] at hO hult ⊢
    have hoW : w.heap.size ≤ o := by rw [ho]; exact HGU0.out.size
    have hou : u ≠ o := by omega
    have hoW2 : ¬ o = w.heap.size := by have := HRLT.out; omega
    have hrD := blk_below hb0 HRC.out
    have huD : Urn wD u s (i + 1) := blk_below hb0 HUC.out
    replace HGU0 := Aside0.mk (gu_below HGU0.out hb0)
    have hd2 := draw_c u s (i + 1) wD (by omega) hs huD
    have HD2 := Aside0.mk hd2
    clear hd2
    have HO := Aside0.mk hO
    clear hO
    have HRD := Aside0.mk hrD
    clear hrD
    clear hwD ho hb0 huD HRC HUC HGC
    refine HD2.out.mono ?_
    rintro e wE ⟨rfl, huE, hg⟩
    have hrE := blk_grownBy hg (fun e => hur (by injection e with e; exact e.symm)) HRD.out
    have hoE := blk_grownBy hg (fun e => hou (by injection e with e; exact e.symm)) HO.out
    replace HGU0 := Aside0.mk (gu_trans HGU0.out hg)
    have hd3 := draw_c u s (i + 1 + 1) wE (by omega) hs huE
    have HD3 := Aside0.mk hd3
    clear hd3
    have HRE := Aside0.mk hrE
    clear hrE
    have HOE := Aside0.mk hoE
    clear hoE
    clear HD2 HRD HO huE hg
    go_wp2_with fail
    refine HD3.out.mono ?_
    rintro e wF ⟨rfl, huF, hg⟩
    have hrF := blk_grownBy hg (fun e => hur (by injection e with e; exact e.symm)) HRE.out
    have hoF := blk_grownBy hg (fun e => hou (by injection e with e; exact e.symm)) HOE.out
    replace HGU0 := Aside0.mk (gu_trans HGU0.out hg)
    have o0 := (blk_cell hoF 0).trans rfl
    have o1 := (blk_cell hoF 1).trans rfl
    have o2 := (blk_cell hoF 2).trans rfl
    have o3 := (blk_cell hoF 3).trans rfl
    have p1 := frozen_of_row _ _ 1 _ _ hoF
    have p2 := frozen_of_row _ _ 2 _ _ hoF
    have p3 := frozen_of_row _ _ 3 _ _ hoF
    have r0 := (blk_cell hrF 0).trans rfl
    have r1 := (blk_cell hrF 1).trans rfl
    have r2 := (blk_cell hrF 2).trans rfl
    have r3 := (blk_cell hrF 3).trans rfl
    have f0 := frozen_of_row _ _ 0 _ _ hrF
    have f1 := frozen_of_row _ _ 1 _ _ hrF
    have f2 := frozen_of_row _ _ 2 _ _ hrF
    have f3 := frozen_of_row _ _ 3 _ _ hrF
    have hor : ¬ o = w.heap.size := hoW2
    have HUF := Aside0.mk huF
    clear huF
    have HRF := Aside0.mk hrF
    clear hrF
    have HOF := Aside0.mk hoF
    clear hoF
    clear HD3 HRE HOE hg hwA hg1 hu hz c0 c1 hcs hult hgu hgW
    obtain ⟨r, hr⟩ : ∃ r, r = w.heap.size := ⟨_, rfl⟩
    rw [← hr] at r0 r1 r2 r3 f0 f1 f2 f3 hor ⊢
    have HR := Aside0.mk hr
    clear hr
    go_wp2
    have hrF := HRF.out
    rw [← HR.out] at hrF
    have hro : r ≠ o := fun e => hor e.symm
    rw [← HR.out] at hur
    try simp only [Exit.inBlock, Exit.then]
    refine bodyPost_ret (results_single rfl (.cell r 35 _ (0, 0) _ rfl (store4 (blk_set (hrF) hro _) _ _ _ _) Tryd.underlying35 rfl (by kernel_rfl) .nil)) rfl ?_
    refine ⟨by rw [HOP.out], ?_, ?_⟩
    · exact urn_set (urn_set (urn_set (urn_set (urn_set (HUF.out) o 2 hou _) r 0 hur _) r 1 hur _) r 2 hur _) r 3 hur _
    · have hrW : w.heap.size ≤ r := by rw [HR.out]; exact Nat.le_refl _
      exact gu_set (gu_set (gu_set (gu_set (gu_set (HGU0.out) o 2 hoW _) r 0 hrW _) r 1 hrW _) r 2 hrW _) r 3 hrW _
  · have hop : opAt 2 s i = ⟨5, 0, 0, 0⟩ := by rw [HKIND.out, ← htm, hcs]; exact rfl
    have HOP := Aside0.mk hop
    clear hop
    clear HKIND htm
    go_wp2_with fail
    have hO := blk_new wC (.cells #[.int .i64 5, .int .i64 0, .int .i64 0, .int .i64 0] 35)
    have hb0 := below_alloc (Below.refl wC.heap.size wC) (.cells #[.int .i64 5, .int .i64 0, .int .i64 0, .int .i64 0] 35)
    obtain ⟨wD, hwD⟩ : ∃ wD, wD = wC.alloc (.cells #[.int .i64 5, .int .i64 0, .int .i64 0, .int .i64 0] 35) := ⟨_, rfl⟩
    obtain ⟨o, ho⟩ : ∃ o, o = wC.heap.size := ⟨_, rfl⟩
    rw [← hwD] at hO hb0 ⊢
    rw [← ho] at hO hult ⊢
    have hoW : w.heap.size ≤ o := by rw [ho]; exact HGU0.out.size
    have hou : u ≠ o := by omega
    have hoW2 : ¬ o = w.heap.size := by have := HRLT.out; omega
    have hrD := blk_below hb0 HRC.out
    have huD : Urn wD u s (i + 1) := blk_below hb0 HUC.out
    replace HGU0 := Aside0.mk (gu_below HGU0.out hb0)
    have hd2 := draw_c u s (i + 1) wD (by omega) hs huD
    have HD2 := Aside0.mk hd2
    clear hd2
    have HO := Aside0.mk hO
    clear hO
    have HRD := Aside0.mk hrD
    clear hrD
    clear hwD ho hb0 huD HRC HUC HGC
    refine HD2.out.mono ?_
    rintro e wE ⟨rfl, huE, hg⟩
    have hrE := blk_grownBy hg (fun e => hur (by injection e with e; exact e.symm)) HRD.out
    have hoE := blk_grownBy hg (fun e => hou (by injection e with e; exact e.symm)) HO.out
    replace HGU0 := Aside0.mk (gu_trans HGU0.out hg)
    have hd3 := draw_c u s (i + 1 + 1) wE (by omega) hs huE
    have HD3 := Aside0.mk hd3
    clear hd3
    have HRE := Aside0.mk hrE
    clear hrE
    have HOE := Aside0.mk hoE
    clear hoE
    clear HD2 HRD HO huE hg
    go_wp2_with fail
    refine HD3.out.mono ?_
    rintro e wF ⟨rfl, huF, hg⟩
    have hrF := blk_grownBy hg (fun e => hur (by injection e with e; exact e.symm)) HRE.out
    have hoF := blk_grownBy hg (fun e => hou (by injection e with e; exact e.symm)) HOE.out
    replace HGU0 := Aside0.mk (gu_trans HGU0.out hg)
    have o0 := (blk_cell hoF 0).trans rfl
    have o1 := (blk_cell hoF 1).trans rfl
    have o2 := (blk_cell hoF 2).trans rfl
    have o3 := (blk_cell hoF 3).trans rfl
    have p1 := frozen_of_row _ _ 1 _ _ hoF
    have p2 := frozen_of_row _ _ 2 _ _ hoF
    have p3 := frozen_of_row _ _ 3 _ _ hoF
    have r0 := (blk_cell hrF 0).trans rfl
    have r1 := (blk_cell hrF 1).trans rfl
    have r2 := (blk_cell hrF 2).trans rfl
    have r3 := (blk_cell hrF 3).trans rfl
    have f0 := frozen_of_row _ _ 0 _ _ hrF
    have f1 := frozen_of_row _ _ 1 _ _ hrF
    have f2 := frozen_of_row _ _ 2 _ _ hrF
    have f3 := frozen_of_row _ _ 3 _ _ hrF
    have hor : ¬ o = w.heap.size := hoW2
    have HUF := Aside0.mk huF
    clear huF
    have HRF := Aside0.mk hrF
    clear hrF
    have HOF := Aside0.mk hoF
    clear hoF
    clear HD3 HRE HOE hg hwA hg1 hu hz c0 c1 hcs hult hgu hgW
    obtain ⟨r, hr⟩ : ∃ r, r = w.heap.size := ⟨_, rfl⟩
    rw [← hr] at r0 r1 r2 r3 f0 f1 f2 f3 hor ⊢
    have HR := Aside0.mk hr
    clear hr
    go_wp2
    have hrF := HRF.out
    rw [← HR.out] at hrF
    have hro : r ≠ o := fun e => hor e.symm
    rw [← HR.out] at hur
    try simp only [Exit.inBlock, Exit.then]
    refine bodyPost_ret (results_single rfl (.cell r 35 _ (0, 0) _ rfl (store4 (hrF) _ _ _ _) Tryd.underlying35 rfl (by kernel_rfl) .nil)) rfl ?_
    refine ⟨by rw [HOP.out], ?_, ?_⟩
    · exact urn_set (urn_set (urn_set (urn_set (HUF.out) r 0 hur _) r 1 hur _) r 2 hur _) r 3 hur _
    · have hrW : w.heap.size ≤ r := by rw [HR.out]; exact Nat.le_refl _
      exact gu_set (gu_set (gu_set (gu_set (HGU0.out) r 0 hrW _) r 1 hrW _) r 2 hrW _) r 3 hrW _
set_option maxHeartbeats 1000000 in
set_option maxRecDepth 100000 in
theorem op_3 (u : Nat) (s : ByteArray) (i : Nat) (st : Int) (hst : st = 3 ∨ st = 4) (w : World) (hi : i < 900000) (hs : s.size < 1000000) (h : Urn w u s i) :
    Calls Tryd.prog 21 #[.pointer (some ⟨u, 0, none⟩), .int .i64 st] w fun e w' => e = .returned (v35 (opAt st s i)) ∧ Urn w' u s (i + 3) ∧ w.grownBy w' (some u) := by
  have hu := urn_lt h
  have hx := bt_nonneg s (i + 1)
  have hx2 := bt_lt s (i + 1)
  have hy := bt_nonneg s (i + 1 + 1)
  have hy2 := bt_lt s (i + 1 + 1)
  have hz := bt_nonneg s i
  have hb0 := below_alloc (Below.refl w.heap.size w) (.cells #[.int .i64 0, .int .i64 0, .int .i64 0, .int .i64 0] 35)
  have hr0 := blk_new w (.cells #[.int .i64 0, .int .i64 0, .int .i64 0, .int .i64 0] 35)
  have hu0 : Urn _ u s i := blk_below hb0 h
  obtain ⟨wA, hwA⟩ : ∃ wA, wA = w.alloc (.cells #[.int .i64 0, .int .i64 0, .int .i64 0, .int .i64 0] 35) := ⟨_, rfl⟩
  rw [← hwA] at hb0 hr0 hu0
  have hsm : wrap64 (256 * bt s (i + 1) + bt s (i + 1 + 1)) = 256 * bt s (i + 1) + bt s (i + 1 + 1) := by unfold wrap64; omega
  have hym : (bt s (i + 1 + 1)).tmod 3 = bt s (i + 1 + 1) % 3 := Int.tmod_eq_emod_of_nonneg hy
  have hym0 : 0 ≤ bt s (i + 1 + 1) % 3 := by omega
  have hym3 : bt s (i + 1 + 1) % 3 < 3 := by omega
  have hur : u ≠ w.heap.size := by omega
  have hn5 : ¬ st = 5 := by omega
  have hn4 : ¬ st = 1 := by omega
  have hk := kinds_3 st (by omega) wA
  have hkind : opAt st s i = mkOp st (6 + (bt s i) % 3) (bt s (i + 1)) (bt s (i + 2)) := by unfold opAt kindOf; rw [if_neg (by omega), if_neg (by omega)]
  have htm : (bt s i).tmod 3 = (bt s i) % 3 := Int.tmod_eq_emod_of_nonneg hz
  have hcs : (bt s i) % 3 = 0 ∨ (bt s i) % 3 = 1 ∨ (bt s i) % 3 = 2 := by omega
  have HB0 := Aside0.mk hb0
  clear hb0
  have HR0 := Aside0.mk hr0
  clear hr0
  have HU0 := Aside0.mk hu0
  clear hu0
  have HK := Aside0.mk hk
  clear hk
  have HKIND := Aside0.mk hkind
  clear hkind
  clear h
  go_enter Tryd.func21, Tryd.ntmps21
  go_wp2_with fail
  rw [← hwA]
  refine HK.out.mono ?_
  rintro e wB ⟨g, rfl, hg1, hg2, hb⟩
  have hgu : u ≠ g := by have := hb.size; have := HB0.out.size; omega
  have hgW : w.heap.size ≤ g := Nat.le_trans HB0.out.size hg1
  have hrB := blk_below hb HR0.out
  have huB : Urn wB u s i := blk_below hb HU0.out
  have hgu0 := gu_below (gu_below (gu_refl u w) HB0.out) hb
  clear HK hb HB0 HR0 HU0
  have hd1 := draw_c u s i wB (by omega) hs huB
  have HD1 := Aside0.mk hd1
  clear hd1
  have HG2 := Aside0.mk hg2
  clear hg2
  have HRB := Aside0.mk hrB
  clear hrB
  have HGU0 := Aside0.mk hgu0
  clear hgu0
  clear huB
  go_wp2_with fail
  refine HD1.out.mono ?_
  rintro e wC ⟨rfl, huC, hg⟩
  have hrC := blk_grownBy hg (fun e => hur (by injection e with e; exact e.symm)) HRB.out
  have hgC := blk_grownBy hg (fun e => hgu (by injection e with e; exact e.symm)) HG2.out
  replace HGU0 := Aside0.mk (gu_trans HGU0.out hg)
  have c0 := (blk_cell hgC 0).trans rfl
  have c1 := (blk_cell hgC 1).trans rfl
  have c2 := (blk_cell hgC 2).trans rfl
  have hult := urn_lt huC
  have hrlt := blk_lt hrC
  have HUC := Aside0.mk huC
  clear huC
  have HRC := Aside0.mk hrC
  clear hrC
  have HGC := Aside0.mk hgC
  clear hgC
  have HRLT := Aside0.mk hrlt
  clear hrlt
  clear HG2 HRB HD1 hg
  rw [← htm] at hcs
  rcases hcs with hcs | hcs | hcs
  · have hop : opAt st s i = ⟨6, bt s (i + 1), bt s (i + 1 + 1), 0⟩ := by rw [HKIND.out, ← htm, hcs]; exact (by show (⟨6, bt s (i + 1), bt s (i + 2), if st = 5 then bt s (i + 2) % 3 + 1 else 0⟩ : S35) = _; rw [if_neg hn5])
    have HOP := Aside0.mk hop
    clear hop
    clear HKIND htm
    go_wp2_with fail
    have hO := blk_new wC (.cells #[.int .i64 6, .int .i64 0, .int .i64 0, .int .i64 0] 35)
    have hb0 := below_alloc (Below.refl wC.heap.size wC) (.cells #[.int .i64 6, .int .i64 0, .int .i64 0, .int .i64 0] 35)
    obtain ⟨wD, hwD⟩ : ∃ wD, wD = wC.alloc (.cells #[.int .i64 6, .int .i64 0, .int .i64 0, .int .i64 0] 35) := ⟨_, rfl⟩
    obtain ⟨o, ho⟩ : ∃ o, o = wC.heap.size := ⟨_, rfl⟩
    rw [← hwD] at hO hb0 ⊢
    rw [← ho] at hO hult ⊢
    have hoW : w.heap.size ≤ o := by rw [ho]; exact HGU0.out.size
    have hou : u ≠ o := by omega
    have hoW2 : ¬ o = w.heap.size := by have := HRLT.out; omega
    have hrD := blk_below hb0 HRC.out
    have huD : Urn wD u s (i + 1) := blk_below hb0 HUC.out
    replace HGU0 := Aside0.mk (gu_below HGU0.out hb0)
    have hd2 := draw_c u s (i + 1) wD (by omega) hs huD
    have HD2 := Aside0.mk hd2
    clear hd2
    have HO := Aside0.mk hO
    clear hO
    have HRD := Aside0.mk hrD
    clear hrD
    clear hwD ho hb0 huD HRC HUC HGC
    refine HD2.out.mono ?_
    rintro e wE ⟨rfl, huE, hg⟩
    have hrE := blk_grownBy hg (fun e => hur (by injection e with e; exact e.symm)) HRD.out
    have hoE := blk_grownBy hg (fun e => hou (by injection e with e; exact e.symm)) HO.out
    replace HGU0 := Aside0.mk (gu_trans HGU0.out hg)
    have hd3 := draw_c u s (i + 1 + 1) wE (by omega) hs huE
    have HD3 := Aside0.mk hd3
    clear hd3
    have HRE := Aside0.mk hrE
    clear hrE
    have HOE := Aside0.mk hoE
    clear hoE
    clear HD2 HRD HO huE hg
    go_wp2_with fail
    refine HD3.out.mono ?_
    rintro e wF ⟨rfl, huF, hg⟩
    have hrF := blk_grownBy hg (fun e => hur (by injection e with e; exact e.symm)) HRE.out
    have hoF := blk_grownBy hg (fun e => hou (by injection e with e; exact e.symm)) HOE.out
    replace HGU0 := Aside0.mk (gu_trans HGU0.out hg)
    have o0 := (blk_cell hoF 0).trans rfl
    have o1 := (blk_cell hoF 1).trans rfl
    have o2 := (blk_cell hoF 2).trans rfl
    have o3 := (blk_cell hoF 3).trans rfl
    have p1 := frozen_of_row _ _ 1 _ _ hoF
    have p2 := frozen_of_row _ _ 2 _ _ hoF
    have p3 := frozen_of_row _ _ 3 _ _ hoF
    have r0 := (blk_cell hrF 0).trans rfl
    have r1 := (blk_cell hrF 1).trans rfl
    have r2 := (blk_cell hrF 2).trans rfl
    have r3 := (blk_cell hrF 3).trans rfl
    have f0 := frozen_of_row _ _ 0 _ _ hrF
    have f1 := frozen_of_row _ _ 1 _ _ hrF
    have f2 := frozen_of_row _ _ 2 _ _ hrF
    have f3 := frozen_of_row _ _ 3 _ _ hrF
    have hor : ¬ o = w.heap.size := hoW2
    have HUF := Aside0.mk huF
    clear huF
    have HRF := Aside0.mk hrF
    clear hrF
    have HOF := Aside0.mk hoF
    clear hoF
    clear HD3 HRE HOE hg hwA hg1 hu hz c0 c1 c2 hcs hult hgu hgW
    obtain ⟨r, hr⟩ : ∃ r, r = w.heap.size := ⟨_, rfl⟩
    rw [← hr] at r0 r1 r2 r3 f0 f1 f2 f3 hor ⊢
    have HR := Aside0.mk hr
    clear hr
    go_wp2
    have hrF := HRF.out
    rw [← HR.out] at hrF
    have hro : r ≠ o := fun e => hor e.symm
    rw [← HR.out] at hur
    try simp only [Exit.inBlock, Exit.then]
    refine bodyPost_ret (results_single rfl (.cell r 35 _ (0, 0) _ rfl (store4 (blk_set (blk_set (hrF) hro _) hro _) _ _ _ _) Tryd.underlying35 rfl (by kernel_rfl) .nil)) rfl ?_
    refine ⟨by rw [HOP.out], ?_, ?_⟩
    · exact urn_set (urn_set (urn_set (urn_set (urn_set (urn_set (HUF.out) o 2 hou _) o 1 hou _) r 0 hur _) r 1 hur _) r 2 hur _) r 3 hur _
    · have hrW : w.heap.size ≤ r := by rw [HR.out]; exact Nat.le_refl _
      exact gu_set (gu_set (gu_set (gu_set (gu_set (gu_set (HGU0.out) o 2 hoW _) o 1 hoW _) r 0 hrW _) r 1 hrW _) r 2 hrW _) r 3 hrW _
  · have hop : opAt st s i = ⟨7, bt s (i + 1), 0, 0⟩ := by rw [HKIND.out, ← htm, hcs]; exact rfl
    have HOP := Aside0.mk hop
    clear hop
    clear HKIND htm
    go_wp2_with fail
    have hO := blk_new wC (.cells #[.int .i64 7, .int .i64 0, .int .i64 0, .int .i64 0] 35)
    have hb0 := below_alloc (Below.refl wC.heap.size wC) (.cells #[.int .i64 7, .int .i64 0, .int .i64 0, .int .i64 0] 35)
    obtain ⟨wD, hwD⟩ : ∃ wD, wD = wC.alloc (.cells #[.int .i64 7, .int .i64 0, .int .i64 0, .int .i64 0] 35) := ⟨_, rfl⟩
    obtain ⟨o, ho⟩ : ∃ o, o = wC.heap.size := ⟨_, rfl⟩
    rw [← hwD] at hO hb0 ⊢
    rw [← ho] at hO hult ⊢
    have hoW : w.heap.size ≤ o := by rw [ho]; exact HGU0.out.size
    have hou : u ≠ o := by omega
    have hoW2 : ¬ o = w.heap.size := by have := HRLT.out; omega
    have hrD := blk_below hb0 HRC.out
    have huD : Urn wD u s (i + 1) := blk_below hb0 HUC.out
    replace HGU0 := Aside0.mk (gu_below HGU0.out hb0)
    have hd2 := draw_c u s (i + 1) wD (by omega) hs huD
    have HD2 := Aside0.mk hd2
    clear hd2
    have HO := Aside0.mk hO
    clear hO
    have HRD := Aside0.mk hrD
    clear hrD
    clear hwD ho hb0 huD HRC HUC HGC
    refine HD2.out.mono ?_
    rintro e wE ⟨rfl, huE, hg⟩
    have hrE := blk_grownBy hg (fun e => hur (by injection e with e; exact e.symm)) HRD.out
    have hoE := blk_grownBy hg (fun e => hou (by injection e with e; exact e.symm)) HO.out
    replace HGU0 := Aside0.mk (gu_trans HGU0.out hg)
    have hd3 := draw_c u s (i + 1 + 1) wE (by omega) hs huE
    have HD3 := Aside0.mk hd3
    clear hd3
    have HRE := Aside0.mk hrE
    clear hrE
    have HOE := Aside0.mk hoE
    clear hoE
    clear HD2 HRD HO huE hg
    go_wp2_with fail
    refine HD3.out.mono ?_
    rintro e wF ⟨rfl, huF, hg⟩
    have hrF := blk_grownBy hg (fun e => hur (by injection e with e; exact e.symm)) HRE.out
    have hoF := blk_grownBy hg (fun e => hou (by injection e with e; exact e.symm)) HOE.out
    replace HGU0 := Aside0.mk (gu_trans HGU0.out hg)
    have o0 := (blk_cell hoF 0).trans rfl
    have o1 := (blk_cell hoF 1).trans rfl
    have o2 := (blk_cell hoF 2).trans rfl
    have o3 := (blk_cell hoF 3).trans rfl
    have p1 := frozen_of_row _ _ 1 _ _ hoF
    have p2 := frozen_of_row _ _ 2 _ _ hoF
    have p3 := frozen_of_row _ _ 3 _ _ hoF
    have r0 := (blk_cell hrF 0).trans rfl
    have r1 := (blk_cell hrF 1).trans rfl
    have r2 := (blk_cell hrF 2).trans rfl
    have r3 := (blk_cell hrF 3).trans rfl
    have f0 := frozen_of_row _ _ 0 _ _ hrF
    have f1 := frozen_of_row _ _ 1 _ _ hrF
    have f2 := frozen_of_row _ _ 2 _ _ hrF
    have f3 := frozen_of_row _ _ 3 _ _ hrF
    have hor : ¬ o = w.heap.size := hoW2
    have HUF := Aside0.mk huF
    clear huF
    have HRF := Aside0.mk hrF
    clear hrF
    have HOF := Aside0.mk hoF
    clear hoF
    clear HD3 HRE HOE hg hwA hg1 hu hz c0 c1 c2 hcs hult hgu hgW
    obtain ⟨r, hr⟩ : ∃ r, r = w.heap.size := ⟨_, rfl⟩
    rw [← hr] at r0 r1 r2 r3 f0 f1 f2 f3 hor ⊢
    have HR := Aside0.mk hr
    clear hr
    go_wp2
    have hrF := HRF.out
    rw [← HR.out] at hrF
    have hro : r ≠ o := fun e => hor e.symm
    rw [← HR.out] at hur
    try simp only [Exit.inBlock, Exit.then]
    refine bodyPost_ret (results_single rfl (.cell r 35 _ (0, 0) _ rfl (store4 (blk_set (hrF) hro _) _ _ _ _) Tryd.underlying35 rfl (by kernel_rfl) .nil)) rfl ?_
    refine ⟨by rw [HOP.out], ?_, ?_⟩
    · exact urn_set (urn_set (urn_set (urn_set (urn_set (HUF.out) o 1 hou _) r 0 hur _) r 1 hur _) r 2 hur _) r 3 hur _
    · have hrW : w.heap.size ≤ r := by rw [HR.out]; exact Nat.le_refl _
      exact gu_set (gu_set (gu_set (gu_set (gu_set (HGU0.out) o 1 hoW _) r 0 hrW _) r 1 hrW _) r 2 hrW _) r 3 hrW _
  · have hop : opAt st s i = ⟨8, bt s (i + 1), 0, 0⟩ := by rw [HKIND.out, ← htm, hcs]; exact rfl
    have HOP := Aside0.mk hop
    clear hop
    clear HKIND htm
    go_wp2_with fail
    have hO := blk_new wC (.cells #[.int .i64 8, .int .i64 0, .int .i64 0, .int .i64 0] 35)
    have hb0 := below_alloc (Below.refl wC.heap.size wC) (.cells #[.int .i64 8, .int .i64 0, .int .i64 0, .int .i64 0] 35)
    obtain ⟨wD, hwD⟩ : ∃ wD, wD = wC.alloc (.cells #[.int .i64 8, .int .i64 0, .int .i64 0, .int .i64 0] 35) := ⟨_, rfl⟩
    obtain ⟨o, ho⟩ : ∃ o, o = wC.heap.size := ⟨_, rfl⟩
    rw [← hwD] at hO hb0 ⊢
    rw [← ho] at hO hult ⊢
    have hoW : w.heap.size ≤ o := by rw [ho]; exact HGU0.out.size
    have hou : u ≠ o := by omega
    have hoW2 : ¬ o = w.heap.size := by have := HRLT.out; omega
    have hrD := blk_below hb0 HRC.out
    have huD : Urn wD u s (i + 1) := blk_below hb0 HUC.out
    replace HGU0 := Aside0.mk (gu_below HGU0.out hb0)
    have hd2 := draw_c u s (i + 1) wD (by omega) hs huD
    have HD2 := Aside0.mk hd2
    clear hd2
    have HO := Aside0.mk hO
    clear hO
    have HRD := Aside0.mk hrD
    clear hrD
    clear hwD ho hb0 huD HRC HUC HGC
    refine HD2.out.mono ?_
    rintro e wE ⟨rfl, huE, hg⟩
    have hrE := blk_grownBy hg (fun e => hur (by injection e with e; exact e.symm)) HRD.out
    have hoE := blk_grownBy hg (fun e => hou (by injection e with e; exact e.symm)) HO.out
    replace HGU0 := Aside0.mk (gu_trans HGU0.out hg)
    have hd3 := draw_c u s (i + 1 + 1) wE (by omega) hs huE
    have HD3 := Aside0.mk hd3
    clear hd3
    have HRE := Aside0.mk hrE
    clear hrE
    have HOE := Aside0.mk hoE
    clear hoE
    clear HD2 HRD HO huE hg
    go_wp2_with fail
    refine HD3.out.mono ?_
    rintro e wF ⟨rfl, huF, hg⟩
    have hrF := blk_grownBy hg (fun e => hur (by injection e with e; exact e.symm)) HRE.out
    have hoF := blk_grownBy hg (fun e => hou (by injection e with e; exact e.symm)) HOE.out
    replace HGU0 := Aside0.mk (gu_trans HGU0.out hg)
    have o0 := (blk_cell hoF 0).trans rfl
    have o1 := (blk_cell hoF 1).trans rfl
    have o2 := (blk_cell hoF 2).trans rfl
    have o3 := (blk_cell hoF 3).trans rfl
    have p1 := frozen_of_row _ _ 1 _ _ hoF
    have p2 := frozen_of_row _ _ 2 _ _ hoF
    have p3 := frozen_of_row _ _ 3 _ _ hoF
    have r0 := (blk_cell hrF 0).trans rfl
    have r1 := (blk_cell hrF 1).trans rfl
    have r2 := (blk_cell hrF 2).trans rfl
    have r3 := (blk_cell hrF 3).trans rfl
    have f0 := frozen_of_row _ _ 0 _ _ hrF
    have f1 := frozen_of_row _ _ 1 _ _ hrF
    have f2 := frozen_of_row _ _ 2 _ _ hrF
    have f3 := frozen_of_row _ _ 3 _ _ hrF
    have hor : ¬ o = w.heap.size := hoW2
    have HUF := Aside0.mk huF
    clear huF
    have HRF := Aside0.mk hrF
    clear hrF
    have HOF := Aside0.mk hoF
    clear hoF
    clear HD3 HRE HOE hg hwA hg1 hu hz c0 c1 c2 hcs hult hgu hgW
    obtain ⟨r, hr⟩ : ∃ r, r = w.heap.size := ⟨_, rfl⟩
    rw [← hr] at r0 r1 r2 r3 f0 f1 f2 f3 hor ⊢
    have HR := Aside0.mk hr
    clear hr
    go_wp2
    have hrF := HRF.out
    rw [← HR.out] at hrF
    have hro : r ≠ o := fun e => hor e.symm
    rw [← HR.out] at hur
    try simp only [Exit.inBlock, Exit.then]
    refine bodyPost_ret (results_single rfl (.cell r 35 _ (0, 0) _ rfl (store4 (blk_set (hrF) hro _) _ _ _ _) Tryd.underlying35 rfl (by kernel_rfl) .nil)) rfl ?_
    refine ⟨by rw [HOP.out], ?_, ?_⟩
    · exact urn_set (urn_set (urn_set (urn_set (urn_set (HUF.out) o 1 hou _) r 0 hur _) r 1 hur _) r 2 hur _) r 3 hur _
    · have hrW : w.heap.size ≤ r := by rw [HR.out]; exact Nat.le_refl _
      exact gu_set (gu_set (gu_set (gu_set (gu_set (HGU0.out) o 1 hoW _) r 0 hrW _) r 1 hrW _) r 2 hrW _) r 3 hrW _
set_option maxHeartbeats 1000000 in
set_option maxRecDepth 100000 in
theorem op_5 (u : Nat) (s : ByteArray) (i : Nat) (st : Int) (hst : st = 5) (w : World) (hi : i < 900000) (hs : s.size < 1000000) (h : Urn w u s i) :
    Calls Tryd.prog 21 #[.pointer (some ⟨u, 0, none⟩), .int .i64 st] w fun e w' => e = .returned (v35 (opAt st s i)) ∧ Urn w' u s (i + 3) ∧ w.grownBy w' (some u) := by
  have hu := urn_lt h
  have hx := bt_nonneg s (i + 1)
  have hx2 := bt_lt s (i + 1)
  have hy := bt_nonneg s (i + 1 + 1)
  have hy2 := bt_lt s (i + 1 + 1)
  have hz := bt_nonneg s i
  have hb0 := below_alloc (Below.refl w.heap.size w) (.cells #[.int .i64 0, .int .i64 0, .int .i64 0, .int .i64 0] 35)
  have hr0 := blk_new w (.cells #[.int .i64 0, .int .i64 0, .int .i64 0, .int .i64 0] 35)
  have hu0 : Urn _ u s i := blk_below hb0 h
  obtain ⟨wA, hwA⟩ : ∃ wA, wA = w.alloc (.cells #[.int .i64 0, .int .i64 0, .int .i64 0, .int .i64 0] 35) := ⟨_, rfl⟩
  rw [← hwA] at hb0 hr0 hu0
  have hsm : wrap64 (256 * bt s (i + 1) + bt s (i + 1 + 1)) = 256 * bt s (i + 1) + bt s (i + 1 + 1) := by unfold wrap64; omega
  have hym : (bt s (i + 1 + 1)).tmod 3 = bt s (i + 1 + 1) % 3 := Int.tmod_eq_emod_of_nonneg hy
  have hym0 : 0 ≤ bt s (i + 1 + 1) % 3 := by omega
  have hym3 : bt s (i + 1 + 1) % 3 < 3 := by omega
  have hur : u ≠ w.heap.size := by omega
  subst hst
  have hk := kinds_3 5 (by omega) wA
  have hkind : opAt 5 s i = mkOp 5 (6 + (bt s i) % 3) (bt s (i + 1)) (bt s (i + 2)) := by rfl
  have htm : (bt s i).tmod 3 = (bt s i) % 3 := Int.tmod_eq_emod_of_nonneg hz
  have hcs : (bt s i) % 3 = 0 ∨ (bt s i) % 3 = 1 ∨ (bt s i) % 3 = 2 := by omega
  have HB0 := Aside0.mk hb0
  clear hb0
  have HR0 := Aside0.mk hr0
  clear hr0
  have HU0 := Aside0.mk hu0
  clear hu0
  have HK := Aside0.mk hk
  clear hk
  have HKIND := Aside0.mk hkind
  clear hkind
  clear h
  go_enter Tryd.func21, Tryd.ntmps21
  go_wp2_with fail
  rw [← hwA]
  refine HK.out.mono ?_
  rintro e wB ⟨g, rfl, hg1, hg2, hb⟩
  have hgu : u ≠ g := by have := hb.size; have := HB0.out.size; omega
  have hgW : w.heap.size ≤ g := Nat.le_trans HB0.out.size hg1
  have hrB := blk_below hb HR0.out
  have huB : Urn wB u s i := blk_below hb HU0.out
  have hgu0 := gu_below (gu_below (gu_refl u w) HB0.out) hb
  clear HK hb HB0 HR0 HU0
  have hd1 := draw_c u s i wB (by omega) hs huB
  have HD1 := Aside0.mk hd1
  clear hd1
  have HG2 := Aside0.mk hg2
  clear hg2
  have HRB := Aside0.mk hrB
  clear hrB
  have HGU0 := Aside0.mk hgu0
  clear hgu0
  clear huB
  go_wp2_with fail
  refine HD1.out.mono ?_
  rintro e wC ⟨rfl, huC, hg⟩
  have hrC := blk_grownBy hg (fun e => hur (by injection e with e; exact e.symm)) HRB.out
  have hgC := blk_grownBy hg (fun e => hgu (by injection e with e; exact e.symm)) HG2.out
  replace HGU0 := Aside0.mk (gu_trans HGU0.out hg)
  have c0 := (blk_cell hgC 0).trans rfl
  have c1 := (blk_cell hgC 1).trans rfl
  have c2 := (blk_cell hgC 2).trans rfl
  have hult := urn_lt huC
  have hrlt := blk_lt hrC
  have HUC := Aside0.mk huC
  clear huC
  have HRC := Aside0.mk hrC
  clear hrC
  have HGC := Aside0.mk hgC
  clear hgC
  have HRLT := Aside0.mk hrlt
  clear hrlt
  clear HG2 HRB HD1 hg
  rw [← htm] at hcs
  rcases hcs with hcs | hcs | hcs
  · have hop : opAt 5 s i = ⟨6, bt s (i + 1), bt s (i + 1 + 1), bt s (i + 1 + 1) % 3 + 1⟩ := by rw [HKIND.out, ← htm, hcs]; exact rfl
    have HOP := Aside0.mk hop
    clear hop
    clear HKIND htm
    go_wp2_with fail
    have hO := blk_new wC (.cells #[.int .i64 6, .int .i64 0, .int .i64 0, .int .i64 0] 35)
    have hb0 := below_alloc (Below.refl wC.heap.size wC) (.cells #[.int .i64 6, .int .i64 0, .int .i64 0, .int .i64 0] 35)
    obtain ⟨wD, hwD⟩ : ∃ wD, wD = wC.alloc (.cells #[.int .i64 6, .int .i64 0, .int .i64 0, .int .i64 0] 35) := ⟨_, rfl⟩
    obtain ⟨o, ho⟩ : ∃ o, o = wC.heap.size := ⟨_, rfl⟩
    rw [← hwD] at hO hb0 ⊢
    rw [← ho] at hO hult ⊢
    have hoW : w.heap.size ≤ o := by rw [ho]; exact HGU0.out.size
    have hou : u ≠ o := by omega
    have hoW2 : ¬ o = w.heap.size := by have := HRLT.out; omega
    have hrD := blk_below hb0 HRC.out
    have huD : Urn wD u s (i + 1) := blk_below hb0 HUC.out
    replace HGU0 := Aside0.mk (gu_below HGU0.out hb0)
    have hd2 := draw_c u s (i + 1) wD (by omega) hs huD
    have HD2 := Aside0.mk hd2
    clear hd2
    have HO := Aside0.mk hO
    clear hO
    have HRD := Aside0.mk hrD
    clear hrD
    clear hwD ho hb0 huD HRC HUC HGC
    refine HD2.out.mono ?_
    rintro e wE ⟨rfl, huE, hg⟩
    have hrE := blk_grownBy hg (fun e => hur (by injection e with e; exact e.symm)) HRD.out
    have hoE := blk_grownBy hg (fun e => hou (by injection e with e; exact e.symm)) HO.out
    replace HGU0 := Aside0.mk (gu_trans HGU0.out hg)
    have hd3 := draw_c u s (i + 1 + 1) wE (by omega) hs huE
    have HD3 := Aside0.mk hd3
    clear hd3
    have HRE := Aside0.mk hrE
    clear hrE
    have HOE := Aside0.mk hoE
    clear hoE
    clear HD2 HRD HO huE hg
    go_wp2_with fail
    refine HD3.out.mono ?_
    rintro e wF ⟨rfl, huF, hg⟩
    have hrF := blk_grownBy hg (fun e => hur (by injection e with e; exact e.symm)) HRE.out
    have hoF := blk_grownBy hg (fun e => hou (by injection e with e; exact e.symm)) HOE.out
    replace HGU0 := Aside0.mk (gu_trans HGU0.out hg)
    have o0 := (blk_cell hoF 0).trans rfl
    have o1 := (blk_cell hoF 1).trans rfl
    have o2 := (blk_cell hoF 2).trans rfl
    have o3 := (blk_cell hoF 3).trans rfl
    have p1 := frozen_of_row _ _ 1 _ _ hoF
    have p2 := frozen_of_row _ _ 2 _ _ hoF
    have p3 := frozen_of_row _ _ 3 _ _ hoF
    have r0 := (blk_cell hrF 0).trans rfl
    have r1 := (blk_cell hrF 1).trans rfl
    have r2 := (blk_cell hrF 2).trans rfl
    have r3 := (blk_cell hrF 3).trans rfl
    have f0 := frozen_of_row _ _ 0 _ _ hrF
    have f1 := frozen_of_row _ _ 1 _ _ hrF
    have f2 := frozen_of_row _ _ 2 _ _ hrF
    have f3 := frozen_of_row _ _ 3 _ _ hrF
    have hor : ¬ o = w.heap.size := hoW2
    have HUF := Aside0.mk huF
    clear huF
    have HRF := Aside0.mk hrF
    clear hrF
    have HOF := Aside0.mk hoF
    clear hoF
    clear HD3 HRE HOE hg hwA hg1 hu hz c0 c1 c2 hcs hult hgu hgW
    obtain ⟨r, hr⟩ : ∃ r, r = w.heap.size := ⟨_, rfl⟩
    rw [← hr] at r0 r1 r2 r3 f0 f1 f2 f3 hor ⊢
    have HR := Aside0.mk hr
    clear hr
    go_wp2
    have hrF := HRF.out
    rw [← HR.out] at hrF
    have hro : r ≠ o := fun e => hor e.symm
    rw [← HR.out] at hur
    try simp only [Exit.inBlock, Exit.then]
    refine bodyPost_ret (results_single rfl (.cell r 35 _ (0, 0) _ rfl (store4 (blk_set (blk_set (blk_set (hrF) hro _) hro _) hro _) _ _ _ _) Tryd.underlying35 rfl (by kernel_rfl) .nil)) rfl ?_
    refine ⟨by rw [HOP.out], ?_, ?_⟩
    · exact urn_set (urn_set (urn_set (urn_set (urn_set (urn_set (urn_set (HUF.out) o 2 hou _) o 3 hou _) o 1 hou _) r 0 hur _) r 1 hur _) r 2 hur _) r 3 hur _
    · have hrW : w.heap.size ≤ r := by rw [HR.out]; exact Nat.le_refl _
      exact gu_set (gu_set (gu_set (gu_set (gu_set (gu_set (gu_set (HGU0.out) o 2 hoW _) o 3 hoW _) o 1 hoW _) r 0 hrW _) r 1 hrW _) r 2 hrW _) r 3 hrW _
  · have hop : opAt 5 s i = ⟨7, bt s (i + 1), 0, 0⟩ := by rw [HKIND.out, ← htm, hcs]; exact rfl
    have HOP := Aside0.mk hop
    clear hop
    clear HKIND htm
    go_wp2_with fail
    have hO := blk_new wC (.cells #[.int .i64 7, .int .i64 0, .int .i64 0, .int .i64 0] 35)
    have hb0 := below_alloc (Below.refl wC.heap.size wC) (.cells #[.int .i64 7, .int .i64 0, .int .i64 0, .int .i64 0] 35)
    obtain ⟨wD, hwD⟩ : ∃ wD, wD = wC.alloc (.cells #[.int .i64 7, .int .i64 0, .int .i64 0, .int .i64 0] 35) := ⟨_, rfl⟩
    obtain ⟨o, ho⟩ : ∃ o, o = wC.heap.size := ⟨_, rfl⟩
    rw [← hwD] at hO hb0 ⊢
    rw [← ho] at hO hult ⊢
    have hoW : w.heap.size ≤ o := by rw [ho]; exact HGU0.out.size
    have hou : u ≠ o := by omega
    have hoW2 : ¬ o = w.heap.size := by have := HRLT.out; omega
    have hrD := blk_below hb0 HRC.out
    have huD : Urn wD u s (i + 1) := blk_below hb0 HUC.out
    replace HGU0 := Aside0.mk (gu_below HGU0.out hb0)
    have hd2 := draw_c u s (i + 1) wD (by omega) hs huD
    have HD2 := Aside0.mk hd2
    clear hd2
    have HO := Aside0.mk hO
    clear hO
    have HRD := Aside0.mk hrD
    clear hrD
    clear hwD ho hb0 huD HRC HUC HGC
    refine HD2.out.mono ?_
    rintro e wE ⟨rfl, huE, hg⟩
    have hrE := blk_grownBy hg (fun e => hur (by injection e with e; exact e.symm)) HRD.out
    have hoE := blk_grownBy hg (fun e => hou (by injection e with e; exact e.symm)) HO.out
    replace HGU0 := Aside0.mk (gu_trans HGU0.out hg)
    have hd3 := draw_c u s (i + 1 + 1) wE (by omega) hs huE
    have HD3 := Aside0.mk hd3
    clear hd3
    have HRE := Aside0.mk hrE
    clear hrE
    have HOE := Aside0.mk hoE
    clear hoE
    clear HD2 HRD HO huE hg
    go_wp2_with fail
    refine HD3.out.mono ?_
    rintro e wF ⟨rfl, huF, hg⟩
    have hrF := blk_grownBy hg (fun e => hur (by injection e with e; exact e.symm)) HRE.out
    have hoF := blk_grownBy hg (fun e => hou (by injection e with e; exact e.symm)) HOE.out
    replace HGU0 := Aside0.mk (gu_trans HGU0.out hg)
    have o0 := (blk_cell hoF 0).trans rfl
    have o1 := (blk_cell hoF 1).trans rfl
    have o2 := (blk_cell hoF 2).trans rfl
    have o3 := (blk_cell hoF 3).trans rfl
    have p1 := frozen_of_row _ _ 1 _ _ hoF
    have p2 := frozen_of_row _ _ 2 _ _ hoF
    have p3 := frozen_of_row _ _ 3 _ _ hoF
    have r0 := (blk_cell hrF 0).trans rfl
    have r1 := (blk_cell hrF 1).trans rfl
    have r2 := (blk_cell hrF 2).trans rfl
    have r3 := (blk_cell hrF 3).trans rfl
    have f0 := frozen_of_row _ _ 0 _ _ hrF
    have f1 := frozen_of_row _ _ 1 _ _ hrF
    have f2 := frozen_of_row _ _ 2 _ _ hrF
    have f3 := frozen_of_row _ _ 3 _ _ hrF
    have hor : ¬ o = w.heap.size := hoW2
    have HUF := Aside0.mk huF
    clear huF
    have HRF := Aside0.mk hrF
    clear hrF
    have HOF := Aside0.mk hoF
    clear hoF
    clear HD3 HRE HOE hg hwA hg1 hu hz c0 c1 c2 hcs hult hgu hgW
    obtain ⟨r, hr⟩ : ∃ r, r = w.heap.size := ⟨_, rfl⟩
    rw [← hr] at r0 r1 r2 r3 f0 f1 f2 f3 hor ⊢
    have HR := Aside0.mk hr
    clear hr
    go_wp2
    have hrF := HRF.out
    rw [← HR.out] at hrF
    have hro : r ≠ o := fun e => hor e.symm
    rw [← HR.out] at hur
    try simp only [Exit.inBlock, Exit.then]
    refine bodyPost_ret (results_single rfl (.cell r 35 _ (0, 0) _ rfl (store4 (blk_set (hrF) hro _) _ _ _ _) Tryd.underlying35 rfl (by kernel_rfl) .nil)) rfl ?_
    refine ⟨by rw [HOP.out], ?_, ?_⟩
    · exact urn_set (urn_set (urn_set (urn_set (urn_set (HUF.out) o 1 hou _) r 0 hur _) r 1 hur _) r 2 hur _) r 3 hur _
    · have hrW : w.heap.size ≤ r := by rw [HR.out]; exact Nat.le_refl _
      exact gu_set (gu_set (gu_set (gu_set (gu_set (HGU0.out) o 1 hoW _) r 0 hrW _) r 1 hrW _) r 2 hrW _) r 3 hrW _
  · have hop : opAt 5 s i = ⟨8, bt s (i + 1), 0, 0⟩ := by rw [HKIND.out, ← htm, hcs]; exact rfl
    have HOP := Aside0.mk hop
    clear hop
    clear HKIND htm
    go_wp2_with fail
    have hO := blk_new wC (.cells #[.int .i64 8, .int .i64 0, .int .i64 0, .int .i64 0] 35)
    have hb0 := below_alloc (Below.refl wC.heap.size wC) (.cells #[.int .i64 8, .int .i64 0, .int .i64 0, .int .i64 0] 35)
    obtain ⟨wD, hwD⟩ : ∃ wD, wD = wC.alloc (.cells #[.int .i64 8, .int .i64 0, .int .i64 0, .int .i64 0] 35) := ⟨_, rfl⟩
    obtain ⟨o, ho⟩ : ∃ o, o = wC.heap.size := ⟨_, rfl⟩
    rw [← hwD] at hO hb0 ⊢
    rw [← ho] at hO hult ⊢
    have hoW : w.heap.size ≤ o := by rw [ho]; exact HGU0.out.size
    have hou : u ≠ o := by omega
    have hoW2 : ¬ o = w.heap.size := by have := HRLT.out; omega
    have hrD := blk_below hb0 HRC.out
    have huD : Urn wD u s (i + 1) := blk_below hb0 HUC.out
    replace HGU0 := Aside0.mk (gu_below HGU0.out hb0)
    have hd2 := draw_c u s (i + 1) wD (by omega) hs huD
    have HD2 := Aside0.mk hd2
    clear hd2
    have HO := Aside0.mk hO
    clear hO
    have HRD := Aside0.mk hrD
    clear hrD
    clear hwD ho hb0 huD HRC HUC HGC
    refine HD2.out.mono ?_
    rintro e wE ⟨rfl, huE, hg⟩
    have hrE := blk_grownBy hg (fun e => hur (by injection e with e; exact e.symm)) HRD.out
    have hoE := blk_grownBy hg (fun e => hou (by injection e with e; exact e.symm)) HO.out
    replace HGU0 := Aside0.mk (gu_trans HGU0.out hg)
    have hd3 := draw_c u s (i + 1 + 1) wE (by omega) hs huE
    have HD3 := Aside0.mk hd3
    clear hd3
    have HRE := Aside0.mk hrE
    clear hrE
    have HOE := Aside0.mk hoE
    clear hoE
    clear HD2 HRD HO huE hg
    go_wp2_with fail
    refine HD3.out.mono ?_
    rintro e wF ⟨rfl, huF, hg⟩
    have hrF := blk_grownBy hg (fun e => hur (by injection e with e; exact e.symm)) HRE.out
    have hoF := blk_grownBy hg (fun e => hou (by injection e with e; exact e.symm)) HOE.out
    replace HGU0 := Aside0.mk (gu_trans HGU0.out hg)
    have o0 := (blk_cell hoF 0).trans rfl
    have o1 := (blk_cell hoF 1).trans rfl
    have o2 := (blk_cell hoF 2).trans rfl
    have o3 := (blk_cell hoF 3).trans rfl
    have p1 := frozen_of_row _ _ 1 _ _ hoF
    have p2 := frozen_of_row _ _ 2 _ _ hoF
    have p3 := frozen_of_row _ _ 3 _ _ hoF
    have r0 := (blk_cell hrF 0).trans rfl
    have r1 := (blk_cell hrF 1).trans rfl
    have r2 := (blk_cell hrF 2).trans rfl
    have r3 := (blk_cell hrF 3).trans rfl
    have f0 := frozen_of_row _ _ 0 _ _ hrF
    have f1 := frozen_of_row _ _ 1 _ _ hrF
    have f2 := frozen_of_row _ _ 2 _ _ hrF
    have f3 := frozen_of_row _ _ 3 _ _ hrF
    have hor : ¬ o = w.heap.size := hoW2
    have HUF := Aside0.mk huF
    clear huF
    have HRF := Aside0.mk hrF
    clear hrF
    have HOF := Aside0.mk hoF
    clear hoF
    clear HD3 HRE HOE hg hwA hg1 hu hz c0 c1 c2 hcs hult hgu hgW
    obtain ⟨r, hr⟩ : ∃ r, r = w.heap.size := ⟨_, rfl⟩
    rw [← hr] at r0 r1 r2 r3 f0 f1 f2 f3 hor ⊢
    have HR := Aside0.mk hr
    clear hr
    go_wp2
    have hrF := HRF.out
    rw [← HR.out] at hrF
    have hro : r ≠ o := fun e => hor e.symm
    rw [← HR.out] at hur
    try simp only [Exit.inBlock, Exit.then]
    refine bodyPost_ret (results_single rfl (.cell r 35 _ (0, 0) _ rfl (store4 (blk_set (hrF) hro _) _ _ _ _) Tryd.underlying35 rfl (by kernel_rfl) .nil)) rfl ?_
    refine ⟨by rw [HOP.out], ?_, ?_⟩
    · exact urn_set (urn_set (urn_set (urn_set (urn_set (HUF.out) o 1 hou _) r 0 hur _) r 1 hur _) r 2 hur _) r 3 hur _
    · have hrW : w.heap.size ≤ r := by rw [HR.out]; exact Nat.le_refl _
      exact gu_set (gu_set (gu_set (gu_set (gu_set (HGU0.out) o 1 hoW _) r 0 hrW _) r 1 hrW _) r 2 hrW _) r 3 hrW _
theorem op_c (u : Nat) (s : ByteArray) (i : Nat) (st : Int) (hst : 1 ≤ st ∧ st ≤ 5) (w : World) (hi : i < 900000) (hs : s.size < 1000000) (h : Urn w u s i) :
    Calls Tryd.prog 21 #[.pointer (some ⟨u, 0, none⟩), .int .i64 st] w fun e w' => e = .returned (v35 (opAt st s i)) ∧ Urn w' u s (i + 3) ∧ w.grownBy w' (some u) := by
  have hc : st = 1 ∨ st = 2 ∨ (st = 3 ∨ st = 4) ∨ st = 5 := by omega
  rcases hc with hc | hc | hc | hc
  · exact op_1 u s i st hc w hi hs h
  · exact op_2 u s i st hc w hi hs h
  · exact op_3 u s i st hc w hi hs h
  · exact op_5 u s i st hc w hi hs h

end Go.Proofs.YtlcfkdglknkbdaaDoor.Lo
