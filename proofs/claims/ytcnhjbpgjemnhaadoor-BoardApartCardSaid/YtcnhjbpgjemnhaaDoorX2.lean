/- The structure types of the data, their readings, their equality. Printed by a program (wip/tools/kinds.py, over the kit's own kinds.py and geneq.py). -/
import Derived.Test.YtcnhjbpgjemnhaaDoorX1
import Derived.Test.YtcnhjbpgjemnhaaDoorWMore
import Derived.Test.YtcnhjbpgjemnhaaDoorWEqStruct
import Derived.Test.YtcnhjbpgjemnhaaDoorProg
import Derived.KernelRfl
namespace Go.Proofs.YtcnhjbpgjemnhaaDoor.X
open Go.RowKit Go.Proofs.YtcnhjbpgjemnhaaDoorW.PrintWords Go.Proofs.YtcnhjbpgjemnhaaDoorW.PrintLast Go.Proofs.YtcnhjbpgjemnhaaDoorW.PrintMore
set_option linter.unusedVariables false
set_option linter.unusedSimpArgs false

/-! #### struct type 25 -/
structure S25 where
  f0 : Int
  f1 : Int
  f2 : Int
def z25 : S25 := ⟨(0 : Int), (0 : Int), (0 : Int)⟩
def k25 : Kd S25 := Kd.iso (Kd.pair (Kd.int .i64) (Kd.pair (Kd.int .i64) (Kd.int .i64))) (fun x : S25 => (x.f0, x.f1, x.f2))
theorem k25_open {w : World} {x : S25} {cs : List Value} (h : k25.K w x cs) : cs = [.int .i64 x.f0, .int .i64 x.f1, .int .i64 x.f2] := by
  obtain ⟨_, _, rfl, rfl, ⟨_, _, rfl, rfl, rfl⟩⟩ := h
  exact rfl
theorem k25_openM {w : World} {base : Nat} {ok : Nat → Prop} {x : S25} {cs : List Value} (h : k25.M w base ok x cs) : cs = [.int .i64 x.f0, .int .i64 x.f1, .int .i64 x.f2] := by
  obtain ⟨_, _, rfl, rfl, ⟨_, _, rfl, rfl, rfl⟩⟩ := h
  exact rfl
theorem k25_mk (w : World) (x : S25)  : k25.K w x [.int .i64 x.f0, .int .i64 x.f1, .int .i64 x.f2] := ⟨[.int .i64 x.f0], [.int .i64 x.f1, .int .i64 x.f2], rfl, rfl, ⟨[.int .i64 x.f1], [.int .i64 x.f2], rfl, rfl, rfl⟩⟩
theorem k25_mkM (w : World) (base : Nat) (ok : Nat → Prop) (x : S25)  : k25.M w base ok x [.int .i64 x.f0, .int .i64 x.f1, .int .i64 x.f2] := ⟨[.int .i64 x.f0], [.int .i64 x.f1, .int .i64 x.f2], rfl, rfl, ⟨[.int .i64 x.f1], [.int .i64 x.f2], rfl, rfl, rfl⟩⟩
def rd_T25 (xs : List S25) (i : Int) : S25 := xs.getD i.toNat z25
theorem at_T25 {w : World} {A : Option Addr} {n : Nat} {xs : List S25} (h : Kd.C k25 w A n xs) (i : Int) (h0 : 0 ≤ i) (h1 : i < n) : ∃ ad , A = some ad ∧ w.cell? (ad.add (i.toNat * 3)) = some (.int .i64 (rd_T25 xs i).f0) ∧ w.cell? ⟨(ad.add (i.toNat * 3)).block, (ad.add (i.toNat * 3)).off + 1, none⟩ = some (.int .i64 (rd_T25 xs i).f1) ∧ w.cell? ⟨(ad.add (i.toNat * 3)).block, (ad.add (i.toNat * 3)).off + 2, none⟩ = some (.int .i64 (rd_T25 xs i).f2) := by
  obtain ⟨ad, c, e, _, hK, hc0⟩ := Kd.C_get h z25 i h0 h1
  have hc : ∀ j u, c[j]? = some u → w.cell? (ad.add (i.toNat * 3 + j)) = some u := hc0
  obtain rfl := k25_open hK
  exact ⟨ad, e, hc 0 _ rfl, by rw [← add_field _ _ 1 (by omega)]; exact hc 1 _ rfl, by rw [← add_field _ _ 2 (by omega)]; exact hc 2 _ rfl⟩

/-! #### struct type 48 -/
structure S48 where
  f0 : Bool
  f1 : Int
  f2 : Int
def z48 : S48 := ⟨false, (0 : Int), (0 : Int)⟩
def k48 : Kd S48 := Kd.iso (Kd.pair Kd.bool (Kd.pair (Kd.int .i64) (Kd.int .i64))) (fun x : S48 => (x.f0, x.f1, x.f2))
theorem k48_open {w : World} {x : S48} {cs : List Value} (h : k48.K w x cs) : cs = [.bool x.f0, .int .i64 x.f1, .int .i64 x.f2] := by
  obtain ⟨_, _, rfl, rfl, ⟨_, _, rfl, rfl, rfl⟩⟩ := h
  exact rfl
theorem k48_openM {w : World} {base : Nat} {ok : Nat → Prop} {x : S48} {cs : List Value} (h : k48.M w base ok x cs) : cs = [.bool x.f0, .int .i64 x.f1, .int .i64 x.f2] := by
  obtain ⟨_, _, rfl, rfl, ⟨_, _, rfl, rfl, rfl⟩⟩ := h
  exact rfl
theorem k48_mk (w : World) (x : S48)  : k48.K w x [.bool x.f0, .int .i64 x.f1, .int .i64 x.f2] := ⟨[.bool x.f0], [.int .i64 x.f1, .int .i64 x.f2], rfl, rfl, ⟨[.int .i64 x.f1], [.int .i64 x.f2], rfl, rfl, rfl⟩⟩
theorem k48_mkM (w : World) (base : Nat) (ok : Nat → Prop) (x : S48)  : k48.M w base ok x [.bool x.f0, .int .i64 x.f1, .int .i64 x.f2] := ⟨[.bool x.f0], [.int .i64 x.f1, .int .i64 x.f2], rfl, rfl, ⟨[.int .i64 x.f1], [.int .i64 x.f2], rfl, rfl, rfl⟩⟩
def rd_T48 (xs : List S48) (i : Int) : S48 := xs.getD i.toNat z48
theorem at_T48 {w : World} {A : Option Addr} {n : Nat} {xs : List S48} (h : Kd.C k48 w A n xs) (i : Int) (h0 : 0 ≤ i) (h1 : i < n) : ∃ ad , A = some ad ∧ w.cell? (ad.add (i.toNat * 3)) = some (.bool (rd_T48 xs i).f0) ∧ w.cell? ⟨(ad.add (i.toNat * 3)).block, (ad.add (i.toNat * 3)).off + 1, none⟩ = some (.int .i64 (rd_T48 xs i).f1) ∧ w.cell? ⟨(ad.add (i.toNat * 3)).block, (ad.add (i.toNat * 3)).off + 2, none⟩ = some (.int .i64 (rd_T48 xs i).f2) := by
  obtain ⟨ad, c, e, _, hK, hc0⟩ := Kd.C_get h z48 i h0 h1
  have hc : ∀ j u, c[j]? = some u → w.cell? (ad.add (i.toNat * 3 + j)) = some u := hc0
  obtain rfl := k48_open hK
  exact ⟨ad, e, hc 0 _ rfl, by rw [← add_field _ _ 1 (by omega)]; exact hc 1 _ rfl, by rw [← add_field _ _ 2 (by omega)]; exact hc 2 _ rfl⟩

/-! #### struct type 50 -/
structure S50 where
  f0 : Int
  f1 : Int
  f2 : Int
  f3 : Int
  f4 : Bool
def z50 : S50 := ⟨(0 : Int), (0 : Int), (0 : Int), (0 : Int), false⟩
def k50 : Kd S50 := Kd.iso (Kd.pair (Kd.int .i64) (Kd.pair (Kd.int .i64) (Kd.pair (Kd.int .i64) (Kd.pair (Kd.int .i64) Kd.bool)))) (fun x : S50 => (x.f0, x.f1, x.f2, x.f3, x.f4))
theorem k50_open {w : World} {x : S50} {cs : List Value} (h : k50.K w x cs) : cs = [.int .i64 x.f0, .int .i64 x.f1, .int .i64 x.f2, .int .i64 x.f3, .bool x.f4] := by
  obtain ⟨_, _, rfl, rfl, ⟨_, _, rfl, rfl, ⟨_, _, rfl, rfl, ⟨_, _, rfl, rfl, rfl⟩⟩⟩⟩ := h
  exact rfl
theorem k50_openM {w : World} {base : Nat} {ok : Nat → Prop} {x : S50} {cs : List Value} (h : k50.M w base ok x cs) : cs = [.int .i64 x.f0, .int .i64 x.f1, .int .i64 x.f2, .int .i64 x.f3, .bool x.f4] := by
  obtain ⟨_, _, rfl, rfl, ⟨_, _, rfl, rfl, ⟨_, _, rfl, rfl, ⟨_, _, rfl, rfl, rfl⟩⟩⟩⟩ := h
  exact rfl
theorem k50_mk (w : World) (x : S50)  : k50.K w x [.int .i64 x.f0, .int .i64 x.f1, .int .i64 x.f2, .int .i64 x.f3, .bool x.f4] := ⟨[.int .i64 x.f0], [.int .i64 x.f1, .int .i64 x.f2, .int .i64 x.f3, .bool x.f4], rfl, rfl, ⟨[.int .i64 x.f1], [.int .i64 x.f2, .int .i64 x.f3, .bool x.f4], rfl, rfl, ⟨[.int .i64 x.f2], [.int .i64 x.f3, .bool x.f4], rfl, rfl, ⟨[.int .i64 x.f3], [.bool x.f4], rfl, rfl, rfl⟩⟩⟩⟩
theorem k50_mkM (w : World) (base : Nat) (ok : Nat → Prop) (x : S50)  : k50.M w base ok x [.int .i64 x.f0, .int .i64 x.f1, .int .i64 x.f2, .int .i64 x.f3, .bool x.f4] := ⟨[.int .i64 x.f0], [.int .i64 x.f1, .int .i64 x.f2, .int .i64 x.f3, .bool x.f4], rfl, rfl, ⟨[.int .i64 x.f1], [.int .i64 x.f2, .int .i64 x.f3, .bool x.f4], rfl, rfl, ⟨[.int .i64 x.f2], [.int .i64 x.f3, .bool x.f4], rfl, rfl, ⟨[.int .i64 x.f3], [.bool x.f4], rfl, rfl, rfl⟩⟩⟩⟩
def rd_T50 (xs : List S50) (i : Int) : S50 := xs.getD i.toNat z50
theorem at_T50 {w : World} {A : Option Addr} {n : Nat} {xs : List S50} (h : Kd.C k50 w A n xs) (i : Int) (h0 : 0 ≤ i) (h1 : i < n) : ∃ ad , A = some ad ∧ w.cell? (ad.add (i.toNat * 5)) = some (.int .i64 (rd_T50 xs i).f0) ∧ w.cell? ⟨(ad.add (i.toNat * 5)).block, (ad.add (i.toNat * 5)).off + 1, none⟩ = some (.int .i64 (rd_T50 xs i).f1) ∧ w.cell? ⟨(ad.add (i.toNat * 5)).block, (ad.add (i.toNat * 5)).off + 2, none⟩ = some (.int .i64 (rd_T50 xs i).f2) ∧ w.cell? ⟨(ad.add (i.toNat * 5)).block, (ad.add (i.toNat * 5)).off + 3, none⟩ = some (.int .i64 (rd_T50 xs i).f3) ∧ w.cell? ⟨(ad.add (i.toNat * 5)).block, (ad.add (i.toNat * 5)).off + 4, none⟩ = some (.bool (rd_T50 xs i).f4) := by
  obtain ⟨ad, c, e, _, hK, hc0⟩ := Kd.C_get h z50 i h0 h1
  have hc : ∀ j u, c[j]? = some u → w.cell? (ad.add (i.toNat * 5 + j)) = some u := hc0
  obtain rfl := k50_open hK
  exact ⟨ad, e, hc 0 _ rfl, by rw [← add_field _ _ 1 (by omega)]; exact hc 1 _ rfl, by rw [← add_field _ _ 2 (by omega)]; exact hc 2 _ rfl, by rw [← add_field _ _ 3 (by omega)]; exact hc 3 _ rfl, by rw [← add_field _ _ 4 (by omega)]; exact hc 4 _ rfl⟩

def wf25 (x : S25) : Prop := I64 x.f0 ∧ I64 x.f1 ∧ I64 x.f2
theorem rd25 : Rd Tryd.prog k25 25 wf25 := Rd.mono (Rd.struct (fun x : S25 => (x.f0, x.f1, x.f2)) (fun p => (⟨p.1, p.2.1, p.2.2⟩ : S25)) (fun _ => rfl) Tryd.underlying25 (by kernel_rfl) (RdF.cons (Rd.int Tryd.underlying3) rfl rfl (by kernel_rfl) (RdF.cons (Rd.int Tryd.underlying3) rfl rfl (by kernel_rfl) (RdF.last (Rd.int Tryd.underlying3) rfl rfl (by kernel_rfl))))) (fun _ h => h)
def wf48 (x : S48) : Prop := True ∧ I64 x.f1 ∧ I64 x.f2
theorem rd48 : Rd Tryd.prog k48 48 wf48 := Rd.mono (Rd.struct (fun x : S48 => (x.f0, x.f1, x.f2)) (fun p => (⟨p.1, p.2.1, p.2.2⟩ : S48)) (fun _ => rfl) Tryd.underlying48 (by kernel_rfl) (RdF.cons (Rd.bool Tryd.underlying4) rfl rfl (by kernel_rfl) (RdF.cons (Rd.int Tryd.underlying3) rfl rfl (by kernel_rfl) (RdF.last (Rd.int Tryd.underlying3) rfl rfl (by kernel_rfl))))) (fun _ h => h)
def wf50 (x : S50) : Prop := I64 x.f0 ∧ I64 x.f1 ∧ I64 x.f2 ∧ I64 x.f3 ∧ True
theorem rd50 : Rd Tryd.prog k50 50 wf50 := Rd.mono (Rd.struct (fun x : S50 => (x.f0, x.f1, x.f2, x.f3, x.f4)) (fun p => (⟨p.1, p.2.1, p.2.2.1, p.2.2.2.1, p.2.2.2.2⟩ : S50)) (fun _ => rfl) Tryd.underlying50 (by kernel_rfl) (RdF.cons (Rd.int Tryd.underlying3) rfl rfl (by kernel_rfl) (RdF.cons (Rd.int Tryd.underlying3) rfl rfl (by kernel_rfl) (RdF.cons (Rd.int Tryd.underlying3) rfl rfl (by kernel_rfl) (RdF.cons (Rd.int Tryd.underlying3) rfl rfl (by kernel_rfl) (RdF.last (Rd.bool Tryd.underlying4) rfl rfl (by kernel_rfl))))))) (fun _ h => h)
theorem eqA25 (d : Nat) (w : World) (x0 y0 : Int) (x1 y1 : Int) (x2 y2 : Int) :
    (Op.equalIn (d + 2) 25 (.agg #[.int .i64 x0, .int .i64 x1, .int .i64 x2]) (.agg #[.int .i64 y0, .int .i64 y1, .int .i64 y2])).run Tryd.prog w = .ok (x0 == y0 && (x1 == y1 && (x2 == y2))) w := by
  refine eqA_of Tryd.underlying25 (by kernel_rfl) ?_
  refine eqf_cons (by rfl) (by go_simp; rfl) (by go_simp; rfl) (by go_simp) ?_
  refine eqf_cons (by rfl) (by go_simp; rfl) (by go_simp; rfl) (by go_simp) ?_
  exact eqf_last (by rfl) (by go_simp; rfl) (by go_simp; rfl) (by go_simp)
theorem eqA48 (d : Nat) (w : World) (x0 y0 : Bool) (x1 y1 : Int) (x2 y2 : Int) :
    (Op.equalIn (d + 2) 48 (.agg #[.bool x0, .int .i64 x1, .int .i64 x2]) (.agg #[.bool y0, .int .i64 y1, .int .i64 y2])).run Tryd.prog w = .ok (x0 == y0 && (x1 == y1 && (x2 == y2))) w := by
  refine eqA_of Tryd.underlying48 (by kernel_rfl) ?_
  refine eqf_cons (by rfl) (by go_simp; rfl) (by go_simp; rfl) (by go_simp) ?_
  refine eqf_cons (by rfl) (by go_simp; rfl) (by go_simp; rfl) (by go_simp) ?_
  exact eqf_last (by rfl) (by go_simp; rfl) (by go_simp; rfl) (by go_simp)
theorem eqA50 (d : Nat) (w : World) (x0 y0 : Int) (x1 y1 : Int) (x2 y2 : Int) (x3 y3 : Int) (x4 y4 : Bool) :
    (Op.equalIn (d + 2) 50 (.agg #[.int .i64 x0, .int .i64 x1, .int .i64 x2, .int .i64 x3, .bool x4]) (.agg #[.int .i64 y0, .int .i64 y1, .int .i64 y2, .int .i64 y3, .bool y4])).run Tryd.prog w = .ok (x0 == y0 && (x1 == y1 && (x2 == y2 && (x3 == y3 && (x4 == y4))))) w := by
  refine eqA_of Tryd.underlying50 (by kernel_rfl) ?_
  refine eqf_cons (by rfl) (by go_simp; rfl) (by go_simp; rfl) (by go_simp) ?_
  refine eqf_cons (by rfl) (by go_simp; rfl) (by go_simp; rfl) (by go_simp) ?_
  refine eqf_cons (by rfl) (by go_simp; rfl) (by go_simp; rfl) (by go_simp) ?_
  refine eqf_cons (by rfl) (by go_simp; rfl) (by go_simp; rfl) (by go_simp) ?_
  exact eqf_last (by rfl) (by go_simp; rfl) (by go_simp; rfl) (by go_simp)
def eqB25 (x y : S25) : Bool := x.f0 == y.f0 && (x.f1 == y.f1 && (x.f2 == y.f2))
theorem eqB25_iff (x y : S25) : eqB25 x y = true ↔ x = y := by
  obtain ⟨a0, a1, a2⟩ := x
  obtain ⟨b0, b1, b2⟩ := y
  simp only [eqB25, Bool.and_eq_true, beq_iff_eq, S25.mk.injEq]
instance : DecidableEq S25 := fun x y => decidable_of_iff _ (eqB25_iff x y)
theorem eqB25_dec (x y : S25) : eqB25 x y = decide (x = y) := by rw [Bool.eq_iff_iff, eqB25_iff, decide_eq_true_iff]
theorem eqB25_self (x : S25) : eqB25 x x = true := (eqB25_iff x x).2 rfl
def eqB48 (x y : S48) : Bool := x.f0 == y.f0 && (x.f1 == y.f1 && (x.f2 == y.f2))
theorem eqB48_iff (x y : S48) : eqB48 x y = true ↔ x = y := by
  obtain ⟨a0, a1, a2⟩ := x
  obtain ⟨b0, b1, b2⟩ := y
  simp only [eqB48, Bool.and_eq_true, beq_iff_eq, S48.mk.injEq]
instance : DecidableEq S48 := fun x y => decidable_of_iff _ (eqB48_iff x y)
theorem eqB48_dec (x y : S48) : eqB48 x y = decide (x = y) := by rw [Bool.eq_iff_iff, eqB48_iff, decide_eq_true_iff]
theorem eqB48_self (x : S48) : eqB48 x x = true := (eqB48_iff x x).2 rfl
def eqB50 (x y : S50) : Bool := x.f0 == y.f0 && (x.f1 == y.f1 && (x.f2 == y.f2 && (x.f3 == y.f3 && (x.f4 == y.f4))))
theorem eqB50_iff (x y : S50) : eqB50 x y = true ↔ x = y := by
  obtain ⟨a0, a1, a2, a3, a4⟩ := x
  obtain ⟨b0, b1, b2, b3, b4⟩ := y
  simp only [eqB50, Bool.and_eq_true, beq_iff_eq, S50.mk.injEq]
instance : DecidableEq S50 := fun x y => decidable_of_iff _ (eqB50_iff x y)
theorem eqB50_dec (x y : S50) : eqB50 x y = decide (x = y) := by rw [Bool.eq_iff_iff, eqB50_iff, decide_eq_true_iff]
theorem eqB50_self (x : S50) : eqB50 x x = true := (eqB50_iff x x).2 rfl
theorem info3 : (Tryd.prog.info? 3).map (fun i => (i.zero, i.size, i.bytes)) = some (some (.int .i64 0), 1, 8) := by kernel_rfl
theorem info4 : (Tryd.prog.info? 4).map (fun i => (i.zero, i.size, i.bytes)) = some (some (.bool false), 1, 1) := by kernel_rfl
theorem info25 : (Tryd.prog.info? 25).map (fun i => (i.zero, i.size, i.bytes)) = some (some (.agg #[(.int .i64 0), (.int .i64 0), (.int .i64 0)]), 3, 24) := by kernel_rfl
theorem info48 : (Tryd.prog.info? 48).map (fun i => (i.zero, i.size, i.bytes)) = some (some (.agg #[(.bool false), (.int .i64 0), (.int .i64 0)]), 3, 24) := by kernel_rfl
theorem info50 : (Tryd.prog.info? 50).map (fun i => (i.zero, i.size, i.bytes)) = some (some (.agg #[(.int .i64 0), (.int .i64 0), (.int .i64 0), (.int .i64 0), (.bool false)]), 5, 40) := by kernel_rfl
abbrev c25 (x : S25) : List Value := [.int .i64 x.f0, .int .i64 x.f1, .int .i64 x.f2]
abbrev v25 (x : S25) : Value := .agg #[.int .i64 x.f0, .int .i64 x.f1, .int .i64 x.f2]
abbrev o25 (x : S25) : Obj := .cells #[.int .i64 x.f0, .int .i64 x.f1, .int .i64 x.f2] 25
theorem cells25 {w : World} {g : Nat} {x : S25} (h : w.heap[g]? = some (o25 x)) : w.cell? ⟨g, 0, none⟩ = some (.int .i64 x.f0) ∧ w.cell? ⟨g, 1, none⟩ = some (.int .i64 x.f1) ∧ w.cell? ⟨g, 2, none⟩ = some (.int .i64 x.f2) := ⟨(blk_cell h 0).trans rfl, (blk_cell h 1).trans rfl, (blk_cell h 2).trans rfl⟩
abbrev c48 (x : S48) : List Value := [.bool x.f0, .int .i64 x.f1, .int .i64 x.f2]
abbrev v48 (x : S48) : Value := .agg #[.bool x.f0, .int .i64 x.f1, .int .i64 x.f2]
abbrev o48 (x : S48) : Obj := .cells #[.bool x.f0, .int .i64 x.f1, .int .i64 x.f2] 48
theorem cells48 {w : World} {g : Nat} {x : S48} (h : w.heap[g]? = some (o48 x)) : w.cell? ⟨g, 0, none⟩ = some (.bool x.f0) ∧ w.cell? ⟨g, 1, none⟩ = some (.int .i64 x.f1) ∧ w.cell? ⟨g, 2, none⟩ = some (.int .i64 x.f2) := ⟨(blk_cell h 0).trans rfl, (blk_cell h 1).trans rfl, (blk_cell h 2).trans rfl⟩
abbrev c50 (x : S50) : List Value := [.int .i64 x.f0, .int .i64 x.f1, .int .i64 x.f2, .int .i64 x.f3, .bool x.f4]
abbrev v50 (x : S50) : Value := .agg #[.int .i64 x.f0, .int .i64 x.f1, .int .i64 x.f2, .int .i64 x.f3, .bool x.f4]
abbrev o50 (x : S50) : Obj := .cells #[.int .i64 x.f0, .int .i64 x.f1, .int .i64 x.f2, .int .i64 x.f3, .bool x.f4] 50
theorem cells50 {w : World} {g : Nat} {x : S50} (h : w.heap[g]? = some (o50 x)) : w.cell? ⟨g, 0, none⟩ = some (.int .i64 x.f0) ∧ w.cell? ⟨g, 1, none⟩ = some (.int .i64 x.f1) ∧ w.cell? ⟨g, 2, none⟩ = some (.int .i64 x.f2) ∧ w.cell? ⟨g, 3, none⟩ = some (.int .i64 x.f3) ∧ w.cell? ⟨g, 4, none⟩ = some (.bool x.f4) := ⟨(blk_cell h 0).trans rfl, (blk_cell h 1).trans rfl, (blk_cell h 2).trans rfl, (blk_cell h 3).trans rfl, (blk_cell h 4).trans rfl⟩
end Go.Proofs.YtcnhjbpgjemnhaaDoor.X
