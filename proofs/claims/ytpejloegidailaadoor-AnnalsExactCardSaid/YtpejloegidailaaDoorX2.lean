/- The structure types of the data, their readings, their equality. Printed by a program (wip/tools/kinds.py, over the kit's own kinds.py and geneq.py). -/
import Derived.Test.YtpejloegidailaaDoorX1
import Derived.Test.YtpejloegidailaaDoorWMore
import Derived.Test.YtpejloegidailaaDoorWEqStruct
import Derived.Test.YtpejloegidailaaDoorProg
import Derived.KernelRfl
namespace Go.Proofs.YtpejloegidailaaDoor.X
open Go.RowKit Go.Proofs.YtpejloegidailaaDoorW.PrintWords Go.Proofs.YtpejloegidailaaDoorW.PrintLast Go.Proofs.YtpejloegidailaaDoorW.PrintMore
set_option linter.unusedVariables false
set_option linter.unusedSimpArgs false

/-! #### struct type 36 -/
structure S36 where
  f0 : Int
  f1 : Int
  f2 : Int
  f3 : Int
def z36 : S36 := ⟨(0 : Int), (0 : Int), (0 : Int), (0 : Int)⟩
def k36 : Kd S36 := Kd.iso (Kd.pair (Kd.int .i64) (Kd.pair (Kd.int .i64) (Kd.pair (Kd.int .i64) (Kd.int .i64)))) (fun x : S36 => (x.f0, x.f1, x.f2, x.f3))
theorem k36_open {w : World} {x : S36} {cs : List Value} (h : k36.K w x cs) : cs = [.int .i64 x.f0, .int .i64 x.f1, .int .i64 x.f2, .int .i64 x.f3] := by
  obtain ⟨_, _, rfl, rfl, ⟨_, _, rfl, rfl, ⟨_, _, rfl, rfl, rfl⟩⟩⟩ := h
  exact rfl
theorem k36_openM {w : World} {base : Nat} {ok : Nat → Prop} {x : S36} {cs : List Value} (h : k36.M w base ok x cs) : cs = [.int .i64 x.f0, .int .i64 x.f1, .int .i64 x.f2, .int .i64 x.f3] := by
  obtain ⟨_, _, rfl, rfl, ⟨_, _, rfl, rfl, ⟨_, _, rfl, rfl, rfl⟩⟩⟩ := h
  exact rfl
theorem k36_mk (w : World) (x : S36)  : k36.K w x [.int .i64 x.f0, .int .i64 x.f1, .int .i64 x.f2, .int .i64 x.f3] := ⟨[.int .i64 x.f0], [.int .i64 x.f1, .int .i64 x.f2, .int .i64 x.f3], rfl, rfl, ⟨[.int .i64 x.f1], [.int .i64 x.f2, .int .i64 x.f3], rfl, rfl, ⟨[.int .i64 x.f2], [.int .i64 x.f3], rfl, rfl, rfl⟩⟩⟩
theorem k36_mkM (w : World) (base : Nat) (ok : Nat → Prop) (x : S36)  : k36.M w base ok x [.int .i64 x.f0, .int .i64 x.f1, .int .i64 x.f2, .int .i64 x.f3] := ⟨[.int .i64 x.f0], [.int .i64 x.f1, .int .i64 x.f2, .int .i64 x.f3], rfl, rfl, ⟨[.int .i64 x.f1], [.int .i64 x.f2, .int .i64 x.f3], rfl, rfl, ⟨[.int .i64 x.f2], [.int .i64 x.f3], rfl, rfl, rfl⟩⟩⟩
def rd_T36 (xs : List S36) (i : Int) : S36 := xs.getD i.toNat z36
theorem at_T36 {w : World} {A : Option Addr} {n : Nat} {xs : List S36} (h : Kd.C k36 w A n xs) (i : Int) (h0 : 0 ≤ i) (h1 : i < n) : ∃ ad , A = some ad ∧ w.cell? (ad.add (i.toNat * 4)) = some (.int .i64 (rd_T36 xs i).f0) ∧ w.cell? ⟨(ad.add (i.toNat * 4)).block, (ad.add (i.toNat * 4)).off + 1, none⟩ = some (.int .i64 (rd_T36 xs i).f1) ∧ w.cell? ⟨(ad.add (i.toNat * 4)).block, (ad.add (i.toNat * 4)).off + 2, none⟩ = some (.int .i64 (rd_T36 xs i).f2) ∧ w.cell? ⟨(ad.add (i.toNat * 4)).block, (ad.add (i.toNat * 4)).off + 3, none⟩ = some (.int .i64 (rd_T36 xs i).f3) := by
  obtain ⟨ad, c, e, _, hK, hc0⟩ := Kd.C_get h z36 i h0 h1
  have hc : ∀ j u, c[j]? = some u → w.cell? (ad.add (i.toNat * 4 + j)) = some u := hc0
  obtain rfl := k36_open hK
  exact ⟨ad, e, hc 0 _ rfl, by rw [← add_field _ _ 1 (by omega)]; exact hc 1 _ rfl, by rw [← add_field _ _ 2 (by omega)]; exact hc 2 _ rfl, by rw [← add_field _ _ 3 (by omega)]; exact hc 3 _ rfl⟩

/-! #### struct type 38 -/
structure S38 where
  f0 : Int
  f1 : Int
def z38 : S38 := ⟨(0 : Int), (0 : Int)⟩
def k38 : Kd S38 := Kd.iso (Kd.pair (Kd.int .i64) (Kd.int .i64)) (fun x : S38 => (x.f0, x.f1))
theorem k38_open {w : World} {x : S38} {cs : List Value} (h : k38.K w x cs) : cs = [.int .i64 x.f0, .int .i64 x.f1] := by
  obtain ⟨_, _, rfl, rfl, rfl⟩ := h
  exact rfl
theorem k38_openM {w : World} {base : Nat} {ok : Nat → Prop} {x : S38} {cs : List Value} (h : k38.M w base ok x cs) : cs = [.int .i64 x.f0, .int .i64 x.f1] := by
  obtain ⟨_, _, rfl, rfl, rfl⟩ := h
  exact rfl
theorem k38_mk (w : World) (x : S38)  : k38.K w x [.int .i64 x.f0, .int .i64 x.f1] := ⟨[.int .i64 x.f0], [.int .i64 x.f1], rfl, rfl, rfl⟩
theorem k38_mkM (w : World) (base : Nat) (ok : Nat → Prop) (x : S38)  : k38.M w base ok x [.int .i64 x.f0, .int .i64 x.f1] := ⟨[.int .i64 x.f0], [.int .i64 x.f1], rfl, rfl, rfl⟩
def rd_T38 (xs : List S38) (i : Int) : S38 := xs.getD i.toNat z38
theorem at_T38 {w : World} {A : Option Addr} {n : Nat} {xs : List S38} (h : Kd.C k38 w A n xs) (i : Int) (h0 : 0 ≤ i) (h1 : i < n) : ∃ ad , A = some ad ∧ w.cell? (ad.add (i.toNat * 2)) = some (.int .i64 (rd_T38 xs i).f0) ∧ w.cell? ⟨(ad.add (i.toNat * 2)).block, (ad.add (i.toNat * 2)).off + 1, none⟩ = some (.int .i64 (rd_T38 xs i).f1) := by
  obtain ⟨ad, c, e, _, hK, hc0⟩ := Kd.C_get h z38 i h0 h1
  have hc : ∀ j u, c[j]? = some u → w.cell? (ad.add (i.toNat * 2 + j)) = some u := hc0
  obtain rfl := k38_open hK
  exact ⟨ad, e, hc 0 _ rfl, by rw [← add_field _ _ 1 (by omega)]; exact hc 1 _ rfl⟩

/-! #### struct type 44 -/
structure S44 where
  f0 : Int
  f1 : Bool
  f2 : S36
  f3 : S38
def z44 : S44 := ⟨(0 : Int), false, z36, z38⟩
def k44 : Kd S44 := Kd.iso (Kd.pair (Kd.int .i64) (Kd.pair Kd.bool (Kd.pair k36 k38))) (fun x : S44 => (x.f0, x.f1, x.f2, x.f3))
theorem k44_open {w : World} {x : S44} {cs : List Value} (h : k44.K w x cs) : cs = [.int .i64 x.f0, .bool x.f1, .int .i64 x.f2.f0, .int .i64 x.f2.f1, .int .i64 x.f2.f2, .int .i64 x.f2.f3, .int .i64 x.f3.f0, .int .i64 x.f3.f1] := by
  obtain ⟨_, _, rfl, rfl, ⟨_, _, rfl, rfl, ⟨_, _, rfl, s2, s6⟩⟩⟩ := h
  obtain rfl := k36_open s2
  obtain rfl := k38_open s6
  exact rfl
theorem k44_openM {w : World} {base : Nat} {ok : Nat → Prop} {x : S44} {cs : List Value} (h : k44.M w base ok x cs) : cs = [.int .i64 x.f0, .bool x.f1, .int .i64 x.f2.f0, .int .i64 x.f2.f1, .int .i64 x.f2.f2, .int .i64 x.f2.f3, .int .i64 x.f3.f0, .int .i64 x.f3.f1] := by
  obtain ⟨_, _, rfl, rfl, ⟨_, _, rfl, rfl, ⟨_, _, rfl, s2, s6⟩⟩⟩ := h
  obtain rfl := k36_openM s2
  obtain rfl := k38_openM s6
  exact rfl
theorem k44_mk (w : World) (x : S44)  : k44.K w x [.int .i64 x.f0, .bool x.f1, .int .i64 x.f2.f0, .int .i64 x.f2.f1, .int .i64 x.f2.f2, .int .i64 x.f2.f3, .int .i64 x.f3.f0, .int .i64 x.f3.f1] := ⟨[.int .i64 x.f0], [.bool x.f1, .int .i64 x.f2.f0, .int .i64 x.f2.f1, .int .i64 x.f2.f2, .int .i64 x.f2.f3, .int .i64 x.f3.f0, .int .i64 x.f3.f1], rfl, rfl, ⟨[.bool x.f1], [.int .i64 x.f2.f0, .int .i64 x.f2.f1, .int .i64 x.f2.f2, .int .i64 x.f2.f3, .int .i64 x.f3.f0, .int .i64 x.f3.f1], rfl, rfl, ⟨[.int .i64 x.f2.f0, .int .i64 x.f2.f1, .int .i64 x.f2.f2, .int .i64 x.f2.f3], [.int .i64 x.f3.f0, .int .i64 x.f3.f1], rfl, (k36_mk w x.f2 ), (k38_mk w x.f3 )⟩⟩⟩
theorem k44_mkM (w : World) (base : Nat) (ok : Nat → Prop) (x : S44)  : k44.M w base ok x [.int .i64 x.f0, .bool x.f1, .int .i64 x.f2.f0, .int .i64 x.f2.f1, .int .i64 x.f2.f2, .int .i64 x.f2.f3, .int .i64 x.f3.f0, .int .i64 x.f3.f1] := ⟨[.int .i64 x.f0], [.bool x.f1, .int .i64 x.f2.f0, .int .i64 x.f2.f1, .int .i64 x.f2.f2, .int .i64 x.f2.f3, .int .i64 x.f3.f0, .int .i64 x.f3.f1], rfl, rfl, ⟨[.bool x.f1], [.int .i64 x.f2.f0, .int .i64 x.f2.f1, .int .i64 x.f2.f2, .int .i64 x.f2.f3, .int .i64 x.f3.f0, .int .i64 x.f3.f1], rfl, rfl, ⟨[.int .i64 x.f2.f0, .int .i64 x.f2.f1, .int .i64 x.f2.f2, .int .i64 x.f2.f3], [.int .i64 x.f3.f0, .int .i64 x.f3.f1], rfl, (k36_mkM w base ok x.f2 ), (k38_mkM w base ok x.f3 )⟩⟩⟩
def rd_T44 (xs : List S44) (i : Int) : S44 := xs.getD i.toNat z44
theorem at_T44 {w : World} {A : Option Addr} {n : Nat} {xs : List S44} (h : Kd.C k44 w A n xs) (i : Int) (h0 : 0 ≤ i) (h1 : i < n) : ∃ ad , A = some ad ∧ w.cell? (ad.add (i.toNat * 8)) = some (.int .i64 (rd_T44 xs i).f0) ∧ w.cell? ⟨(ad.add (i.toNat * 8)).block, (ad.add (i.toNat * 8)).off + 1, none⟩ = some (.bool (rd_T44 xs i).f1) ∧ w.cell? ⟨(ad.add (i.toNat * 8)).block, (ad.add (i.toNat * 8)).off + 2, none⟩ = some (.int .i64 (rd_T44 xs i).f2.f0) ∧ w.cell? ⟨(ad.add (i.toNat * 8)).block, (ad.add (i.toNat * 8)).off + 3, none⟩ = some (.int .i64 (rd_T44 xs i).f2.f1) ∧ w.cell? ⟨(ad.add (i.toNat * 8)).block, (ad.add (i.toNat * 8)).off + 4, none⟩ = some (.int .i64 (rd_T44 xs i).f2.f2) ∧ w.cell? ⟨(ad.add (i.toNat * 8)).block, (ad.add (i.toNat * 8)).off + 5, none⟩ = some (.int .i64 (rd_T44 xs i).f2.f3) ∧ w.cell? ⟨(ad.add (i.toNat * 8)).block, (ad.add (i.toNat * 8)).off + 6, none⟩ = some (.int .i64 (rd_T44 xs i).f3.f0) ∧ w.cell? ⟨(ad.add (i.toNat * 8)).block, (ad.add (i.toNat * 8)).off + 7, none⟩ = some (.int .i64 (rd_T44 xs i).f3.f1) := by
  obtain ⟨ad, c, e, _, hK, hc0⟩ := Kd.C_get h z44 i h0 h1
  have hc : ∀ j u, c[j]? = some u → w.cell? (ad.add (i.toNat * 8 + j)) = some u := hc0
  obtain rfl := k44_open hK
  exact ⟨ad, e, hc 0 _ rfl, by rw [← add_field _ _ 1 (by omega)]; exact hc 1 _ rfl, by rw [← add_field _ _ 2 (by omega)]; exact hc 2 _ rfl, by rw [← add_field _ _ 3 (by omega)]; exact hc 3 _ rfl, by rw [← add_field _ _ 4 (by omega)]; exact hc 4 _ rfl, by rw [← add_field _ _ 5 (by omega)]; exact hc 5 _ rfl, by rw [← add_field _ _ 6 (by omega)]; exact hc 6 _ rfl, by rw [← add_field _ _ 7 (by omega)]; exact hc 7 _ rfl⟩

/-! #### struct type 40 -/
structure S40 where
  f0 : Int
  f1 : S36
  f2 : S38
  f3 : Int
  f4 : Int
  f5 : Bool
def z40 : S40 := ⟨(0 : Int), z36, z38, (0 : Int), (0 : Int), false⟩
def k40 : Kd S40 := Kd.iso (Kd.pair (Kd.int .i64) (Kd.pair k36 (Kd.pair k38 (Kd.pair (Kd.int .i64) (Kd.pair (Kd.int .i64) Kd.bool))))) (fun x : S40 => (x.f0, x.f1, x.f2, x.f3, x.f4, x.f5))
theorem k40_open {w : World} {x : S40} {cs : List Value} (h : k40.K w x cs) : cs = [.int .i64 x.f0, .int .i64 x.f1.f0, .int .i64 x.f1.f1, .int .i64 x.f1.f2, .int .i64 x.f1.f3, .int .i64 x.f2.f0, .int .i64 x.f2.f1, .int .i64 x.f3, .int .i64 x.f4, .bool x.f5] := by
  obtain ⟨_, _, rfl, rfl, ⟨_, _, rfl, s1, ⟨_, _, rfl, s5, ⟨_, _, rfl, rfl, ⟨_, _, rfl, rfl, rfl⟩⟩⟩⟩⟩ := h
  obtain rfl := k36_open s1
  obtain rfl := k38_open s5
  exact rfl
theorem k40_openM {w : World} {base : Nat} {ok : Nat → Prop} {x : S40} {cs : List Value} (h : k40.M w base ok x cs) : cs = [.int .i64 x.f0, .int .i64 x.f1.f0, .int .i64 x.f1.f1, .int .i64 x.f1.f2, .int .i64 x.f1.f3, .int .i64 x.f2.f0, .int .i64 x.f2.f1, .int .i64 x.f3, .int .i64 x.f4, .bool x.f5] := by
  obtain ⟨_, _, rfl, rfl, ⟨_, _, rfl, s1, ⟨_, _, rfl, s5, ⟨_, _, rfl, rfl, ⟨_, _, rfl, rfl, rfl⟩⟩⟩⟩⟩ := h
  obtain rfl := k36_openM s1
  obtain rfl := k38_openM s5
  exact rfl
theorem k40_mk (w : World) (x : S40)  : k40.K w x [.int .i64 x.f0, .int .i64 x.f1.f0, .int .i64 x.f1.f1, .int .i64 x.f1.f2, .int .i64 x.f1.f3, .int .i64 x.f2.f0, .int .i64 x.f2.f1, .int .i64 x.f3, .int .i64 x.f4, .bool x.f5] := ⟨[.int .i64 x.f0], [.int .i64 x.f1.f0, .int .i64 x.f1.f1, .int .i64 x.f1.f2, .int .i64 x.f1.f3, .int .i64 x.f2.f0, .int .i64 x.f2.f1, .int .i64 x.f3, .int .i64 x.f4, .bool x.f5], rfl, rfl, ⟨[.int .i64 x.f1.f0, .int .i64 x.f1.f1, .int .i64 x.f1.f2, .int .i64 x.f1.f3], [.int .i64 x.f2.f0, .int .i64 x.f2.f1, .int .i64 x.f3, .int .i64 x.f4, .bool x.f5], rfl, (k36_mk w x.f1 ), ⟨[.int .i64 x.f2.f0, .int .i64 x.f2.f1], [.int .i64 x.f3, .int .i64 x.f4, .bool x.f5], rfl, (k38_mk w x.f2 ), ⟨[.int .i64 x.f3], [.int .i64 x.f4, .bool x.f5], rfl, rfl, ⟨[.int .i64 x.f4], [.bool x.f5], rfl, rfl, rfl⟩⟩⟩⟩⟩
theorem k40_mkM (w : World) (base : Nat) (ok : Nat → Prop) (x : S40)  : k40.M w base ok x [.int .i64 x.f0, .int .i64 x.f1.f0, .int .i64 x.f1.f1, .int .i64 x.f1.f2, .int .i64 x.f1.f3, .int .i64 x.f2.f0, .int .i64 x.f2.f1, .int .i64 x.f3, .int .i64 x.f4, .bool x.f5] := ⟨[.int .i64 x.f0], [.int .i64 x.f1.f0, .int .i64 x.f1.f1, .int .i64 x.f1.f2, .int .i64 x.f1.f3, .int .i64 x.f2.f0, .int .i64 x.f2.f1, .int .i64 x.f3, .int .i64 x.f4, .bool x.f5], rfl, rfl, ⟨[.int .i64 x.f1.f0, .int .i64 x.f1.f1, .int .i64 x.f1.f2, .int .i64 x.f1.f3], [.int .i64 x.f2.f0, .int .i64 x.f2.f1, .int .i64 x.f3, .int .i64 x.f4, .bool x.f5], rfl, (k36_mkM w base ok x.f1 ), ⟨[.int .i64 x.f2.f0, .int .i64 x.f2.f1], [.int .i64 x.f3, .int .i64 x.f4, .bool x.f5], rfl, (k38_mkM w base ok x.f2 ), ⟨[.int .i64 x.f3], [.int .i64 x.f4, .bool x.f5], rfl, rfl, ⟨[.int .i64 x.f4], [.bool x.f5], rfl, rfl, rfl⟩⟩⟩⟩⟩
def rd_T40 (xs : List S40) (i : Int) : S40 := xs.getD i.toNat z40
theorem at_T40 {w : World} {A : Option Addr} {n : Nat} {xs : List S40} (h : Kd.C k40 w A n xs) (i : Int) (h0 : 0 ≤ i) (h1 : i < n) : ∃ ad , A = some ad ∧ w.cell? (ad.add (i.toNat * 10)) = some (.int .i64 (rd_T40 xs i).f0) ∧ w.cell? ⟨(ad.add (i.toNat * 10)).block, (ad.add (i.toNat * 10)).off + 1, none⟩ = some (.int .i64 (rd_T40 xs i).f1.f0) ∧ w.cell? ⟨(ad.add (i.toNat * 10)).block, (ad.add (i.toNat * 10)).off + 2, none⟩ = some (.int .i64 (rd_T40 xs i).f1.f1) ∧ w.cell? ⟨(ad.add (i.toNat * 10)).block, (ad.add (i.toNat * 10)).off + 3, none⟩ = some (.int .i64 (rd_T40 xs i).f1.f2) ∧ w.cell? ⟨(ad.add (i.toNat * 10)).block, (ad.add (i.toNat * 10)).off + 4, none⟩ = some (.int .i64 (rd_T40 xs i).f1.f3) ∧ w.cell? ⟨(ad.add (i.toNat * 10)).block, (ad.add (i.toNat * 10)).off + 5, none⟩ = some (.int .i64 (rd_T40 xs i).f2.f0) ∧ w.cell? ⟨(ad.add (i.toNat * 10)).block, (ad.add (i.toNat * 10)).off + 6, none⟩ = some (.int .i64 (rd_T40 xs i).f2.f1) ∧ w.cell? ⟨(ad.add (i.toNat * 10)).block, (ad.add (i.toNat * 10)).off + 7, none⟩ = some (.int .i64 (rd_T40 xs i).f3) ∧ w.cell? ⟨(ad.add (i.toNat * 10)).block, (ad.add (i.toNat * 10)).off + 8, none⟩ = some (.int .i64 (rd_T40 xs i).f4) ∧ w.cell? ⟨(ad.add (i.toNat * 10)).block, (ad.add (i.toNat * 10)).off + 9, none⟩ = some (.bool (rd_T40 xs i).f5) := by
  obtain ⟨ad, c, e, _, hK, hc0⟩ := Kd.C_get h z40 i h0 h1
  have hc : ∀ j u, c[j]? = some u → w.cell? (ad.add (i.toNat * 10 + j)) = some u := hc0
  obtain rfl := k40_open hK
  exact ⟨ad, e, hc 0 _ rfl, by rw [← add_field _ _ 1 (by omega)]; exact hc 1 _ rfl, by rw [← add_field _ _ 2 (by omega)]; exact hc 2 _ rfl, by rw [← add_field _ _ 3 (by omega)]; exact hc 3 _ rfl, by rw [← add_field _ _ 4 (by omega)]; exact hc 4 _ rfl, by rw [← add_field _ _ 5 (by omega)]; exact hc 5 _ rfl, by rw [← add_field _ _ 6 (by omega)]; exact hc 6 _ rfl, by rw [← add_field _ _ 7 (by omega)]; exact hc 7 _ rfl, by rw [← add_field _ _ 8 (by omega)]; exact hc 8 _ rfl, by rw [← add_field _ _ 9 (by omega)]; exact hc 9 _ rfl⟩

/-! #### struct type 48 -/
structure S48 where
  f0 : Int
  f1 : Bool
  f2 : S36
  f3 : Bool
  f4 : Bool
  f5 : S38
def z48 : S48 := ⟨(0 : Int), false, z36, false, false, z38⟩
def k48 : Kd S48 := Kd.iso (Kd.pair (Kd.int .i64) (Kd.pair Kd.bool (Kd.pair k36 (Kd.pair Kd.bool (Kd.pair Kd.bool k38))))) (fun x : S48 => (x.f0, x.f1, x.f2, x.f3, x.f4, x.f5))
theorem k48_open {w : World} {x : S48} {cs : List Value} (h : k48.K w x cs) : cs = [.int .i64 x.f0, .bool x.f1, .int .i64 x.f2.f0, .int .i64 x.f2.f1, .int .i64 x.f2.f2, .int .i64 x.f2.f3, .bool x.f3, .bool x.f4, .int .i64 x.f5.f0, .int .i64 x.f5.f1] := by
  obtain ⟨_, _, rfl, rfl, ⟨_, _, rfl, rfl, ⟨_, _, rfl, s2, ⟨_, _, rfl, rfl, ⟨_, _, rfl, rfl, s8⟩⟩⟩⟩⟩ := h
  obtain rfl := k36_open s2
  obtain rfl := k38_open s8
  exact rfl
theorem k48_openM {w : World} {base : Nat} {ok : Nat → Prop} {x : S48} {cs : List Value} (h : k48.M w base ok x cs) : cs = [.int .i64 x.f0, .bool x.f1, .int .i64 x.f2.f0, .int .i64 x.f2.f1, .int .i64 x.f2.f2, .int .i64 x.f2.f3, .bool x.f3, .bool x.f4, .int .i64 x.f5.f0, .int .i64 x.f5.f1] := by
  obtain ⟨_, _, rfl, rfl, ⟨_, _, rfl, rfl, ⟨_, _, rfl, s2, ⟨_, _, rfl, rfl, ⟨_, _, rfl, rfl, s8⟩⟩⟩⟩⟩ := h
  obtain rfl := k36_openM s2
  obtain rfl := k38_openM s8
  exact rfl
theorem k48_mk (w : World) (x : S48)  : k48.K w x [.int .i64 x.f0, .bool x.f1, .int .i64 x.f2.f0, .int .i64 x.f2.f1, .int .i64 x.f2.f2, .int .i64 x.f2.f3, .bool x.f3, .bool x.f4, .int .i64 x.f5.f0, .int .i64 x.f5.f1] := ⟨[.int .i64 x.f0], [.bool x.f1, .int .i64 x.f2.f0, .int .i64 x.f2.f1, .int .i64 x.f2.f2, .int .i64 x.f2.f3, .bool x.f3, .bool x.f4, .int .i64 x.f5.f0, .int .i64 x.f5.f1], rfl, rfl, ⟨[.bool x.f1], [.int .i64 x.f2.f0, .int .i64 x.f2.f1, .int .i64 x.f2.f2, .int .i64 x.f2.f3, .bool x.f3, .bool x.f4, .int .i64 x.f5.f0, .int .i64 x.f5.f1], rfl, rfl, ⟨[.int .i64 x.f2.f0, .int .i64 x.f2.f1, .int .i64 x.f2.f2, .int .i64 x.f2.f3], [.bool x.f3, .bool x.f4, .int .i64 x.f5.f0, .int .i64 x.f5.f1], rfl, (k36_mk w x.f2 ), ⟨[.bool x.f3], [.bool x.f4, .int .i64 x.f5.f0, .int .i64 x.f5.f1], rfl, rfl, ⟨[.bool x.f4], [.int .i64 x.f5.f0, .int .i64 x.f5.f1], rfl, rfl, (k38_mk w x.f5 )⟩⟩⟩⟩⟩
theorem k48_mkM (w : World) (base : Nat) (ok : Nat → Prop) (x : S48)  : k48.M w base ok x [.int .i64 x.f0, .bool x.f1, .int .i64 x.f2.f0, .int .i64 x.f2.f1, .int .i64 x.f2.f2, .int .i64 x.f2.f3, .bool x.f3, .bool x.f4, .int .i64 x.f5.f0, .int .i64 x.f5.f1] := ⟨[.int .i64 x.f0], [.bool x.f1, .int .i64 x.f2.f0, .int .i64 x.f2.f1, .int .i64 x.f2.f2, .int .i64 x.f2.f3, .bool x.f3, .bool x.f4, .int .i64 x.f5.f0, .int .i64 x.f5.f1], rfl, rfl, ⟨[.bool x.f1], [.int .i64 x.f2.f0, .int .i64 x.f2.f1, .int .i64 x.f2.f2, .int .i64 x.f2.f3, .bool x.f3, .bool x.f4, .int .i64 x.f5.f0, .int .i64 x.f5.f1], rfl, rfl, ⟨[.int .i64 x.f2.f0, .int .i64 x.f2.f1, .int .i64 x.f2.f2, .int .i64 x.f2.f3], [.bool x.f3, .bool x.f4, .int .i64 x.f5.f0, .int .i64 x.f5.f1], rfl, (k36_mkM w base ok x.f2 ), ⟨[.bool x.f3], [.bool x.f4, .int .i64 x.f5.f0, .int .i64 x.f5.f1], rfl, rfl, ⟨[.bool x.f4], [.int .i64 x.f5.f0, .int .i64 x.f5.f1], rfl, rfl, (k38_mkM w base ok x.f5 )⟩⟩⟩⟩⟩
def rd_T48 (xs : List S48) (i : Int) : S48 := xs.getD i.toNat z48
theorem at_T48 {w : World} {A : Option Addr} {n : Nat} {xs : List S48} (h : Kd.C k48 w A n xs) (i : Int) (h0 : 0 ≤ i) (h1 : i < n) : ∃ ad , A = some ad ∧ w.cell? (ad.add (i.toNat * 10)) = some (.int .i64 (rd_T48 xs i).f0) ∧ w.cell? ⟨(ad.add (i.toNat * 10)).block, (ad.add (i.toNat * 10)).off + 1, none⟩ = some (.bool (rd_T48 xs i).f1) ∧ w.cell? ⟨(ad.add (i.toNat * 10)).block, (ad.add (i.toNat * 10)).off + 2, none⟩ = some (.int .i64 (rd_T48 xs i).f2.f0) ∧ w.cell? ⟨(ad.add (i.toNat * 10)).block, (ad.add (i.toNat * 10)).off + 3, none⟩ = some (.int .i64 (rd_T48 xs i).f2.f1) ∧ w.cell? ⟨(ad.add (i.toNat * 10)).block, (ad.add (i.toNat * 10)).off + 4, none⟩ = some (.int .i64 (rd_T48 xs i).f2.f2) ∧ w.cell? ⟨(ad.add (i.toNat * 10)).block, (ad.add (i.toNat * 10)).off + 5, none⟩ = some (.int .i64 (rd_T48 xs i).f2.f3) ∧ w.cell? ⟨(ad.add (i.toNat * 10)).block, (ad.add (i.toNat * 10)).off + 6, none⟩ = some (.bool (rd_T48 xs i).f3) ∧ w.cell? ⟨(ad.add (i.toNat * 10)).block, (ad.add (i.toNat * 10)).off + 7, none⟩ = some (.bool (rd_T48 xs i).f4) ∧ w.cell? ⟨(ad.add (i.toNat * 10)).block, (ad.add (i.toNat * 10)).off + 8, none⟩ = some (.int .i64 (rd_T48 xs i).f5.f0) ∧ w.cell? ⟨(ad.add (i.toNat * 10)).block, (ad.add (i.toNat * 10)).off + 9, none⟩ = some (.int .i64 (rd_T48 xs i).f5.f1) := by
  obtain ⟨ad, c, e, _, hK, hc0⟩ := Kd.C_get h z48 i h0 h1
  have hc : ∀ j u, c[j]? = some u → w.cell? (ad.add (i.toNat * 10 + j)) = some u := hc0
  obtain rfl := k48_open hK
  exact ⟨ad, e, hc 0 _ rfl, by rw [← add_field _ _ 1 (by omega)]; exact hc 1 _ rfl, by rw [← add_field _ _ 2 (by omega)]; exact hc 2 _ rfl, by rw [← add_field _ _ 3 (by omega)]; exact hc 3 _ rfl, by rw [← add_field _ _ 4 (by omega)]; exact hc 4 _ rfl, by rw [← add_field _ _ 5 (by omega)]; exact hc 5 _ rfl, by rw [← add_field _ _ 6 (by omega)]; exact hc 6 _ rfl, by rw [← add_field _ _ 7 (by omega)]; exact hc 7 _ rfl, by rw [← add_field _ _ 8 (by omega)]; exact hc 8 _ rfl, by rw [← add_field _ _ 9 (by omega)]; exact hc 9 _ rfl⟩

def wf36 (x : S36) : Prop := I64 x.f0 ∧ I64 x.f1 ∧ I64 x.f2 ∧ I64 x.f3
theorem rd36 : Rd Tryd.prog k36 36 wf36 := Rd.mono (Rd.struct (fun x : S36 => (x.f0, x.f1, x.f2, x.f3)) (fun p => (⟨p.1, p.2.1, p.2.2.1, p.2.2.2⟩ : S36)) (fun _ => rfl) Tryd.underlying36 (by kernel_rfl) (RdF.cons (Rd.int Tryd.underlying3) rfl rfl (by kernel_rfl) (RdF.cons (Rd.int Tryd.underlying3) rfl rfl (by kernel_rfl) (RdF.cons (Rd.int Tryd.underlying3) rfl rfl (by kernel_rfl) (RdF.last (Rd.int Tryd.underlying3) rfl rfl (by kernel_rfl)))))) (fun _ h => h)
def wf38 (x : S38) : Prop := I64 x.f0 ∧ I64 x.f1
theorem rd38 : Rd Tryd.prog k38 38 wf38 := Rd.mono (Rd.struct (fun x : S38 => (x.f0, x.f1)) (fun p => (⟨p.1, p.2⟩ : S38)) (fun _ => rfl) Tryd.underlying38 (by kernel_rfl) (RdF.cons (Rd.int Tryd.underlying3) rfl rfl (by kernel_rfl) (RdF.last (Rd.int Tryd.underlying3) rfl rfl (by kernel_rfl)))) (fun _ h => h)
def wf44 (x : S44) : Prop := I64 x.f0 ∧ True ∧ wf36 x.f2 ∧ wf38 x.f3
theorem rd44 : Rd Tryd.prog k44 44 wf44 := Rd.mono (Rd.struct (fun x : S44 => (x.f0, x.f1, x.f2, x.f3)) (fun p => (⟨p.1, p.2.1, p.2.2.1, p.2.2.2⟩ : S44)) (fun _ => rfl) Tryd.underlying44 (by kernel_rfl) (RdF.cons (Rd.int Tryd.underlying3) rfl rfl (by kernel_rfl) (RdF.cons (Rd.bool Tryd.underlying4) rfl rfl (by kernel_rfl) (RdF.cons rd36 rfl rfl (by kernel_rfl) (RdF.last rd38 rfl rfl (by kernel_rfl)))))) (fun _ h => h)
def wf40 (x : S40) : Prop := I64 x.f0 ∧ wf36 x.f1 ∧ wf38 x.f2 ∧ I64 x.f3 ∧ I64 x.f4 ∧ True
theorem rd40 : Rd Tryd.prog k40 40 wf40 := Rd.mono (Rd.struct (fun x : S40 => (x.f0, x.f1, x.f2, x.f3, x.f4, x.f5)) (fun p => (⟨p.1, p.2.1, p.2.2.1, p.2.2.2.1, p.2.2.2.2.1, p.2.2.2.2.2⟩ : S40)) (fun _ => rfl) Tryd.underlying40 (by kernel_rfl) (RdF.cons (Rd.int Tryd.underlying3) rfl rfl (by kernel_rfl) (RdF.cons rd36 rfl rfl (by kernel_rfl) (RdF.cons rd38 rfl rfl (by kernel_rfl) (RdF.cons (Rd.int Tryd.underlying3) rfl rfl (by kernel_rfl) (RdF.cons (Rd.int Tryd.underlying3) rfl rfl (by kernel_rfl) (RdF.last (Rd.bool Tryd.underlying4) rfl rfl (by kernel_rfl)))))))) (fun _ h => h)
def wf48 (x : S48) : Prop := I64 x.f0 ∧ True ∧ wf36 x.f2 ∧ True ∧ True ∧ wf38 x.f5
theorem rd48 : Rd Tryd.prog k48 48 wf48 := Rd.mono (Rd.struct (fun x : S48 => (x.f0, x.f1, x.f2, x.f3, x.f4, x.f5)) (fun p => (⟨p.1, p.2.1, p.2.2.1, p.2.2.2.1, p.2.2.2.2.1, p.2.2.2.2.2⟩ : S48)) (fun _ => rfl) Tryd.underlying48 (by kernel_rfl) (RdF.cons (Rd.int Tryd.underlying3) rfl rfl (by kernel_rfl) (RdF.cons (Rd.bool Tryd.underlying4) rfl rfl (by kernel_rfl) (RdF.cons rd36 rfl rfl (by kernel_rfl) (RdF.cons (Rd.bool Tryd.underlying4) rfl rfl (by kernel_rfl) (RdF.cons (Rd.bool Tryd.underlying4) rfl rfl (by kernel_rfl) (RdF.last rd38 rfl rfl (by kernel_rfl)))))))) (fun _ h => h)
theorem eqA36 (d : Nat) (w : World) (x0 y0 : Int) (x1 y1 : Int) (x2 y2 : Int) (x3 y3 : Int) :
    (Op.equalIn (d + 2) 36 (.agg #[.int .i64 x0, .int .i64 x1, .int .i64 x2, .int .i64 x3]) (.agg #[.int .i64 y0, .int .i64 y1, .int .i64 y2, .int .i64 y3])).run Tryd.prog w = .ok (x0 == y0 && (x1 == y1 && (x2 == y2 && (x3 == y3)))) w := by
  refine eqA_of Tryd.underlying36 (by kernel_rfl) ?_
  refine eqf_cons (by rfl) (by go_simp; rfl) (by go_simp; rfl) (by go_simp) ?_
  refine eqf_cons (by rfl) (by go_simp; rfl) (by go_simp; rfl) (by go_simp) ?_
  refine eqf_cons (by rfl) (by go_simp; rfl) (by go_simp; rfl) (by go_simp) ?_
  exact eqf_last (by rfl) (by go_simp; rfl) (by go_simp; rfl) (by go_simp)
theorem eqA38 (d : Nat) (w : World) (x0 y0 : Int) (x1 y1 : Int) :
    (Op.equalIn (d + 2) 38 (.agg #[.int .i64 x0, .int .i64 x1]) (.agg #[.int .i64 y0, .int .i64 y1])).run Tryd.prog w = .ok (x0 == y0 && (x1 == y1)) w := by
  refine eqA_of Tryd.underlying38 (by kernel_rfl) ?_
  refine eqf_cons (by rfl) (by go_simp; rfl) (by go_simp; rfl) (by go_simp) ?_
  exact eqf_last (by rfl) (by go_simp; rfl) (by go_simp; rfl) (by go_simp)
theorem eqA44 (d : Nat) (w : World) (x0 y0 : Int) (x1 y1 : Bool) (x2 y2 : Int) (x3 y3 : Int) (x4 y4 : Int) (x5 y5 : Int) (x6 y6 : Int) (x7 y7 : Int) :
    (Op.equalIn (d + 3) 44 (.agg #[.int .i64 x0, .bool x1, .int .i64 x2, .int .i64 x3, .int .i64 x4, .int .i64 x5, .int .i64 x6, .int .i64 x7]) (.agg #[.int .i64 y0, .bool y1, .int .i64 y2, .int .i64 y3, .int .i64 y4, .int .i64 y5, .int .i64 y6, .int .i64 y7])).run Tryd.prog w = .ok (x0 == y0 && (x1 == y1 && ((x2 == y2 && (x3 == y3 && (x4 == y4 && (x5 == y5)))) && ((x6 == y6 && (x7 == y7)))))) w := by
  refine eqA_of Tryd.underlying44 (by kernel_rfl) ?_
  refine eqf_cons (by rfl) (by go_simp; rfl) (by go_simp; rfl) (by go_simp) ?_
  refine eqf_cons (by rfl) (by go_simp; rfl) (by go_simp; rfl) (by go_simp) ?_
  refine eqf_cons (by rfl) (by go_simp) (by go_simp) (eqA36 (d + 0) w _ _ _ _ _ _ _ _) ?_
  exact eqf_last (by rfl) (by go_simp) (by go_simp) (eqA38 (d + 0) w _ _ _ _)
theorem eqA40 (d : Nat) (w : World) (x0 y0 : Int) (x1 y1 : Int) (x2 y2 : Int) (x3 y3 : Int) (x4 y4 : Int) (x5 y5 : Int) (x6 y6 : Int) (x7 y7 : Int) (x8 y8 : Int) (x9 y9 : Bool) :
    (Op.equalIn (d + 3) 40 (.agg #[.int .i64 x0, .int .i64 x1, .int .i64 x2, .int .i64 x3, .int .i64 x4, .int .i64 x5, .int .i64 x6, .int .i64 x7, .int .i64 x8, .bool x9]) (.agg #[.int .i64 y0, .int .i64 y1, .int .i64 y2, .int .i64 y3, .int .i64 y4, .int .i64 y5, .int .i64 y6, .int .i64 y7, .int .i64 y8, .bool y9])).run Tryd.prog w = .ok (x0 == y0 && ((x1 == y1 && (x2 == y2 && (x3 == y3 && (x4 == y4)))) && ((x5 == y5 && (x6 == y6)) && (x7 == y7 && (x8 == y8 && (x9 == y9)))))) w := by
  refine eqA_of Tryd.underlying40 (by kernel_rfl) ?_
  refine eqf_cons (by rfl) (by go_simp; rfl) (by go_simp; rfl) (by go_simp) ?_
  refine eqf_cons (by rfl) (by go_simp) (by go_simp) (eqA36 (d + 0) w _ _ _ _ _ _ _ _) ?_
  refine eqf_cons (by rfl) (by go_simp) (by go_simp) (eqA38 (d + 0) w _ _ _ _) ?_
  refine eqf_cons (by rfl) (by go_simp; rfl) (by go_simp; rfl) (by go_simp) ?_
  refine eqf_cons (by rfl) (by go_simp; rfl) (by go_simp; rfl) (by go_simp) ?_
  exact eqf_last (by rfl) (by go_simp; rfl) (by go_simp; rfl) (by go_simp)
theorem eqA48 (d : Nat) (w : World) (x0 y0 : Int) (x1 y1 : Bool) (x2 y2 : Int) (x3 y3 : Int) (x4 y4 : Int) (x5 y5 : Int) (x6 y6 : Bool) (x7 y7 : Bool) (x8 y8 : Int) (x9 y9 : Int) :
    (Op.equalIn (d + 3) 48 (.agg #[.int .i64 x0, .bool x1, .int .i64 x2, .int .i64 x3, .int .i64 x4, .int .i64 x5, .bool x6, .bool x7, .int .i64 x8, .int .i64 x9]) (.agg #[.int .i64 y0, .bool y1, .int .i64 y2, .int .i64 y3, .int .i64 y4, .int .i64 y5, .bool y6, .bool y7, .int .i64 y8, .int .i64 y9])).run Tryd.prog w = .ok (x0 == y0 && (x1 == y1 && ((x2 == y2 && (x3 == y3 && (x4 == y4 && (x5 == y5)))) && (x6 == y6 && (x7 == y7 && ((x8 == y8 && (x9 == y9)))))))) w := by
  refine eqA_of Tryd.underlying48 (by kernel_rfl) ?_
  refine eqf_cons (by rfl) (by go_simp; rfl) (by go_simp; rfl) (by go_simp) ?_
  refine eqf_cons (by rfl) (by go_simp; rfl) (by go_simp; rfl) (by go_simp) ?_
  refine eqf_cons (by rfl) (by go_simp) (by go_simp) (eqA36 (d + 0) w _ _ _ _ _ _ _ _) ?_
  refine eqf_cons (by rfl) (by go_simp; rfl) (by go_simp; rfl) (by go_simp) ?_
  refine eqf_cons (by rfl) (by go_simp; rfl) (by go_simp; rfl) (by go_simp) ?_
  exact eqf_last (by rfl) (by go_simp) (by go_simp) (eqA38 (d + 0) w _ _ _ _)
def eqB36 (x y : S36) : Bool := x.f0 == y.f0 && (x.f1 == y.f1 && (x.f2 == y.f2 && (x.f3 == y.f3)))
theorem eqB36_iff (x y : S36) : eqB36 x y = true ↔ x = y := by
  obtain ⟨a0, a1, a2, a3⟩ := x
  obtain ⟨b0, b1, b2, b3⟩ := y
  simp only [eqB36, Bool.and_eq_true, beq_iff_eq, S36.mk.injEq]
instance : DecidableEq S36 := fun x y => decidable_of_iff _ (eqB36_iff x y)
theorem eqB36_dec (x y : S36) : eqB36 x y = decide (x = y) := by rw [Bool.eq_iff_iff, eqB36_iff, decide_eq_true_iff]
theorem eqB36_self (x : S36) : eqB36 x x = true := (eqB36_iff x x).2 rfl
def eqB38 (x y : S38) : Bool := x.f0 == y.f0 && (x.f1 == y.f1)
theorem eqB38_iff (x y : S38) : eqB38 x y = true ↔ x = y := by
  obtain ⟨a0, a1⟩ := x
  obtain ⟨b0, b1⟩ := y
  simp only [eqB38, Bool.and_eq_true, beq_iff_eq, S38.mk.injEq]
instance : DecidableEq S38 := fun x y => decidable_of_iff _ (eqB38_iff x y)
theorem eqB38_dec (x y : S38) : eqB38 x y = decide (x = y) := by rw [Bool.eq_iff_iff, eqB38_iff, decide_eq_true_iff]
theorem eqB38_self (x : S38) : eqB38 x x = true := (eqB38_iff x x).2 rfl
def eqB44 (x y : S44) : Bool := x.f0 == y.f0 && (x.f1 == y.f1 && (eqB36 x.f2 y.f2 && (eqB38 x.f3 y.f3)))
theorem eqB44_iff (x y : S44) : eqB44 x y = true ↔ x = y := by
  obtain ⟨a0, a1, a2, a3⟩ := x
  obtain ⟨b0, b1, b2, b3⟩ := y
  simp only [eqB44, Bool.and_eq_true, beq_iff_eq, eqB36_iff, eqB38_iff, S44.mk.injEq]
instance : DecidableEq S44 := fun x y => decidable_of_iff _ (eqB44_iff x y)
theorem eqB44_dec (x y : S44) : eqB44 x y = decide (x = y) := by rw [Bool.eq_iff_iff, eqB44_iff, decide_eq_true_iff]
theorem eqB44_self (x : S44) : eqB44 x x = true := (eqB44_iff x x).2 rfl
def eqB40 (x y : S40) : Bool := x.f0 == y.f0 && (eqB36 x.f1 y.f1 && (eqB38 x.f2 y.f2 && (x.f3 == y.f3 && (x.f4 == y.f4 && (x.f5 == y.f5)))))
theorem eqB40_iff (x y : S40) : eqB40 x y = true ↔ x = y := by
  obtain ⟨a0, a1, a2, a3, a4, a5⟩ := x
  obtain ⟨b0, b1, b2, b3, b4, b5⟩ := y
  simp only [eqB40, Bool.and_eq_true, beq_iff_eq, eqB36_iff, eqB38_iff, S40.mk.injEq]
instance : DecidableEq S40 := fun x y => decidable_of_iff _ (eqB40_iff x y)
theorem eqB40_dec (x y : S40) : eqB40 x y = decide (x = y) := by rw [Bool.eq_iff_iff, eqB40_iff, decide_eq_true_iff]
theorem eqB40_self (x : S40) : eqB40 x x = true := (eqB40_iff x x).2 rfl
def eqB48 (x y : S48) : Bool := x.f0 == y.f0 && (x.f1 == y.f1 && (eqB36 x.f2 y.f2 && (x.f3 == y.f3 && (x.f4 == y.f4 && (eqB38 x.f5 y.f5)))))
theorem eqB48_iff (x y : S48) : eqB48 x y = true ↔ x = y := by
  obtain ⟨a0, a1, a2, a3, a4, a5⟩ := x
  obtain ⟨b0, b1, b2, b3, b4, b5⟩ := y
  simp only [eqB48, Bool.and_eq_true, beq_iff_eq, eqB36_iff, eqB38_iff, S48.mk.injEq]
instance : DecidableEq S48 := fun x y => decidable_of_iff _ (eqB48_iff x y)
theorem eqB48_dec (x y : S48) : eqB48 x y = decide (x = y) := by rw [Bool.eq_iff_iff, eqB48_iff, decide_eq_true_iff]
theorem eqB48_self (x : S48) : eqB48 x x = true := (eqB48_iff x x).2 rfl
theorem info3 : (Tryd.prog.info? 3).map (fun i => (i.zero, i.size, i.bytes)) = some (some (.int .i64 0), 1, 8) := by kernel_rfl
theorem info4 : (Tryd.prog.info? 4).map (fun i => (i.zero, i.size, i.bytes)) = some (some (.bool false), 1, 1) := by kernel_rfl
theorem info36 : (Tryd.prog.info? 36).map (fun i => (i.zero, i.size, i.bytes)) = some (some (.agg #[(.int .i64 0), (.int .i64 0), (.int .i64 0), (.int .i64 0)]), 4, 32) := by kernel_rfl
theorem info38 : (Tryd.prog.info? 38).map (fun i => (i.zero, i.size, i.bytes)) = some (some (.agg #[(.int .i64 0), (.int .i64 0)]), 2, 16) := by kernel_rfl
theorem info40 : (Tryd.prog.info? 40).map (fun i => (i.zero, i.size, i.bytes)) = some (some (.agg #[(.int .i64 0), (.int .i64 0), (.int .i64 0), (.int .i64 0), (.int .i64 0), (.int .i64 0), (.int .i64 0), (.int .i64 0), (.int .i64 0), (.bool false)]), 10, 80) := by kernel_rfl
theorem info44 : (Tryd.prog.info? 44).map (fun i => (i.zero, i.size, i.bytes)) = some (some (.agg #[(.int .i64 0), (.bool false), (.int .i64 0), (.int .i64 0), (.int .i64 0), (.int .i64 0), (.int .i64 0), (.int .i64 0)]), 8, 64) := by kernel_rfl
theorem info48 : (Tryd.prog.info? 48).map (fun i => (i.zero, i.size, i.bytes)) = some (some (.agg #[(.int .i64 0), (.bool false), (.int .i64 0), (.int .i64 0), (.int .i64 0), (.int .i64 0), (.bool false), (.bool false), (.int .i64 0), (.int .i64 0)]), 10, 72) := by kernel_rfl
abbrev c36 (x : S36) : List Value := [.int .i64 x.f0, .int .i64 x.f1, .int .i64 x.f2, .int .i64 x.f3]
abbrev v36 (x : S36) : Value := .agg #[.int .i64 x.f0, .int .i64 x.f1, .int .i64 x.f2, .int .i64 x.f3]
abbrev o36 (x : S36) : Obj := .cells #[.int .i64 x.f0, .int .i64 x.f1, .int .i64 x.f2, .int .i64 x.f3] 36
theorem cells36 {w : World} {g : Nat} {x : S36} (h : w.heap[g]? = some (o36 x)) : w.cell? ⟨g, 0, none⟩ = some (.int .i64 x.f0) ∧ w.cell? ⟨g, 1, none⟩ = some (.int .i64 x.f1) ∧ w.cell? ⟨g, 2, none⟩ = some (.int .i64 x.f2) ∧ w.cell? ⟨g, 3, none⟩ = some (.int .i64 x.f3) := ⟨(blk_cell h 0).trans rfl, (blk_cell h 1).trans rfl, (blk_cell h 2).trans rfl, (blk_cell h 3).trans rfl⟩
abbrev c38 (x : S38) : List Value := [.int .i64 x.f0, .int .i64 x.f1]
abbrev v38 (x : S38) : Value := .agg #[.int .i64 x.f0, .int .i64 x.f1]
abbrev o38 (x : S38) : Obj := .cells #[.int .i64 x.f0, .int .i64 x.f1] 38
theorem cells38 {w : World} {g : Nat} {x : S38} (h : w.heap[g]? = some (o38 x)) : w.cell? ⟨g, 0, none⟩ = some (.int .i64 x.f0) ∧ w.cell? ⟨g, 1, none⟩ = some (.int .i64 x.f1) := ⟨(blk_cell h 0).trans rfl, (blk_cell h 1).trans rfl⟩
abbrev c44 (x : S44) : List Value := [.int .i64 x.f0, .bool x.f1, .int .i64 x.f2.f0, .int .i64 x.f2.f1, .int .i64 x.f2.f2, .int .i64 x.f2.f3, .int .i64 x.f3.f0, .int .i64 x.f3.f1]
abbrev v44 (x : S44) : Value := .agg #[.int .i64 x.f0, .bool x.f1, .int .i64 x.f2.f0, .int .i64 x.f2.f1, .int .i64 x.f2.f2, .int .i64 x.f2.f3, .int .i64 x.f3.f0, .int .i64 x.f3.f1]
abbrev o44 (x : S44) : Obj := .cells #[.int .i64 x.f0, .bool x.f1, .int .i64 x.f2.f0, .int .i64 x.f2.f1, .int .i64 x.f2.f2, .int .i64 x.f2.f3, .int .i64 x.f3.f0, .int .i64 x.f3.f1] 44
theorem cells44 {w : World} {g : Nat} {x : S44} (h : w.heap[g]? = some (o44 x)) : w.cell? ⟨g, 0, none⟩ = some (.int .i64 x.f0) ∧ w.cell? ⟨g, 1, none⟩ = some (.bool x.f1) ∧ w.cell? ⟨g, 2, none⟩ = some (.int .i64 x.f2.f0) ∧ w.cell? ⟨g, 3, none⟩ = some (.int .i64 x.f2.f1) ∧ w.cell? ⟨g, 4, none⟩ = some (.int .i64 x.f2.f2) ∧ w.cell? ⟨g, 5, none⟩ = some (.int .i64 x.f2.f3) ∧ w.cell? ⟨g, 6, none⟩ = some (.int .i64 x.f3.f0) ∧ w.cell? ⟨g, 7, none⟩ = some (.int .i64 x.f3.f1) := ⟨(blk_cell h 0).trans rfl, (blk_cell h 1).trans rfl, (blk_cell h 2).trans rfl, (blk_cell h 3).trans rfl, (blk_cell h 4).trans rfl, (blk_cell h 5).trans rfl, (blk_cell h 6).trans rfl, (blk_cell h 7).trans rfl⟩
abbrev c40 (x : S40) : List Value := [.int .i64 x.f0, .int .i64 x.f1.f0, .int .i64 x.f1.f1, .int .i64 x.f1.f2, .int .i64 x.f1.f3, .int .i64 x.f2.f0, .int .i64 x.f2.f1, .int .i64 x.f3, .int .i64 x.f4, .bool x.f5]
abbrev v40 (x : S40) : Value := .agg #[.int .i64 x.f0, .int .i64 x.f1.f0, .int .i64 x.f1.f1, .int .i64 x.f1.f2, .int .i64 x.f1.f3, .int .i64 x.f2.f0, .int .i64 x.f2.f1, .int .i64 x.f3, .int .i64 x.f4, .bool x.f5]
abbrev o40 (x : S40) : Obj := .cells #[.int .i64 x.f0, .int .i64 x.f1.f0, .int .i64 x.f1.f1, .int .i64 x.f1.f2, .int .i64 x.f1.f3, .int .i64 x.f2.f0, .int .i64 x.f2.f1, .int .i64 x.f3, .int .i64 x.f4, .bool x.f5] 40
theorem cells40 {w : World} {g : Nat} {x : S40} (h : w.heap[g]? = some (o40 x)) : w.cell? ⟨g, 0, none⟩ = some (.int .i64 x.f0) ∧ w.cell? ⟨g, 1, none⟩ = some (.int .i64 x.f1.f0) ∧ w.cell? ⟨g, 2, none⟩ = some (.int .i64 x.f1.f1) ∧ w.cell? ⟨g, 3, none⟩ = some (.int .i64 x.f1.f2) ∧ w.cell? ⟨g, 4, none⟩ = some (.int .i64 x.f1.f3) ∧ w.cell? ⟨g, 5, none⟩ = some (.int .i64 x.f2.f0) ∧ w.cell? ⟨g, 6, none⟩ = some (.int .i64 x.f2.f1) ∧ w.cell? ⟨g, 7, none⟩ = some (.int .i64 x.f3) ∧ w.cell? ⟨g, 8, none⟩ = some (.int .i64 x.f4) ∧ w.cell? ⟨g, 9, none⟩ = some (.bool x.f5) := ⟨(blk_cell h 0).trans rfl, (blk_cell h 1).trans rfl, (blk_cell h 2).trans rfl, (blk_cell h 3).trans rfl, (blk_cell h 4).trans rfl, (blk_cell h 5).trans rfl, (blk_cell h 6).trans rfl, (blk_cell h 7).trans rfl, (blk_cell h 8).trans rfl, (blk_cell h 9).trans rfl⟩
abbrev c48 (x : S48) : List Value := [.int .i64 x.f0, .bool x.f1, .int .i64 x.f2.f0, .int .i64 x.f2.f1, .int .i64 x.f2.f2, .int .i64 x.f2.f3, .bool x.f3, .bool x.f4, .int .i64 x.f5.f0, .int .i64 x.f5.f1]
abbrev v48 (x : S48) : Value := .agg #[.int .i64 x.f0, .bool x.f1, .int .i64 x.f2.f0, .int .i64 x.f2.f1, .int .i64 x.f2.f2, .int .i64 x.f2.f3, .bool x.f3, .bool x.f4, .int .i64 x.f5.f0, .int .i64 x.f5.f1]
abbrev o48 (x : S48) : Obj := .cells #[.int .i64 x.f0, .bool x.f1, .int .i64 x.f2.f0, .int .i64 x.f2.f1, .int .i64 x.f2.f2, .int .i64 x.f2.f3, .bool x.f3, .bool x.f4, .int .i64 x.f5.f0, .int .i64 x.f5.f1] 48
theorem cells48 {w : World} {g : Nat} {x : S48} (h : w.heap[g]? = some (o48 x)) : w.cell? ⟨g, 0, none⟩ = some (.int .i64 x.f0) ∧ w.cell? ⟨g, 1, none⟩ = some (.bool x.f1) ∧ w.cell? ⟨g, 2, none⟩ = some (.int .i64 x.f2.f0) ∧ w.cell? ⟨g, 3, none⟩ = some (.int .i64 x.f2.f1) ∧ w.cell? ⟨g, 4, none⟩ = some (.int .i64 x.f2.f2) ∧ w.cell? ⟨g, 5, none⟩ = some (.int .i64 x.f2.f3) ∧ w.cell? ⟨g, 6, none⟩ = some (.bool x.f3) ∧ w.cell? ⟨g, 7, none⟩ = some (.bool x.f4) ∧ w.cell? ⟨g, 8, none⟩ = some (.int .i64 x.f5.f0) ∧ w.cell? ⟨g, 9, none⟩ = some (.int .i64 x.f5.f1) := ⟨(blk_cell h 0).trans rfl, (blk_cell h 1).trans rfl, (blk_cell h 2).trans rfl, (blk_cell h 3).trans rfl, (blk_cell h 4).trans rfl, (blk_cell h 5).trans rfl, (blk_cell h 6).trans rfl, (blk_cell h 7).trans rfl, (blk_cell h 8).trans rfl, (blk_cell h 9).trans rfl⟩
end Go.Proofs.YtpejloegidailaaDoor.X
