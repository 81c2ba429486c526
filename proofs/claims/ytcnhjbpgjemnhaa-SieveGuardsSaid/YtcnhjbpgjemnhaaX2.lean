/- The structure types of the data, their readings, their equality. Printed by a program (wip/tools/kinds.py, over the kit's own kinds.py and geneq.py). -/
import Derived.Test.YtcnhjbpgjemnhaaX1
import Derived.Test.YtcnhjbpgjemnhaaWMore
import Derived.Test.YtcnhjbpgjemnhaaWEqStruct
import Derived.Test.YtcnhjbpgjemnhaaProg
import Derived.KernelRfl
namespace Go.Proofs.Ytcnhjbpgjemnhaa.X
open Go.RowKit Go.Proofs.YtcnhjbpgjemnhaaW.PrintWords Go.Proofs.YtcnhjbpgjemnhaaW.PrintLast Go.Proofs.YtcnhjbpgjemnhaaW.PrintMore
set_option linter.unusedVariables false
set_option linter.unusedSimpArgs false

/-! #### struct type 37 -/
structure S37 where
  f0 : Int
  f1 : Int
  f2 : Int
  f3 : Int
  f4 : Bool
def z37 : S37 := ⟨(0 : Int), (0 : Int), (0 : Int), (0 : Int), false⟩
def k37 : Kd S37 := Kd.iso (Kd.pair (Kd.int .i64) (Kd.pair (Kd.int .i64) (Kd.pair (Kd.int .i64) (Kd.pair (Kd.int .i64) Kd.bool)))) (fun x : S37 => (x.f0, x.f1, x.f2, x.f3, x.f4))
theorem k37_open {w : World} {x : S37} {cs : List Value} (h : k37.K w x cs) : cs = [.int .i64 x.f0, .int .i64 x.f1, .int .i64 x.f2, .int .i64 x.f3, .bool x.f4] := by
  obtain ⟨_, _, rfl, rfl, ⟨_, _, rfl, rfl, ⟨_, _, rfl, rfl, ⟨_, _, rfl, rfl, rfl⟩⟩⟩⟩ := h
  exact rfl
theorem k37_openM {w : World} {base : Nat} {ok : Nat → Prop} {x : S37} {cs : List Value} (h : k37.M w base ok x cs) : cs = [.int .i64 x.f0, .int .i64 x.f1, .int .i64 x.f2, .int .i64 x.f3, .bool x.f4] := by
  obtain ⟨_, _, rfl, rfl, ⟨_, _, rfl, rfl, ⟨_, _, rfl, rfl, ⟨_, _, rfl, rfl, rfl⟩⟩⟩⟩ := h
  exact rfl
theorem k37_mk (w : World) (x : S37)  : k37.K w x [.int .i64 x.f0, .int .i64 x.f1, .int .i64 x.f2, .int .i64 x.f3, .bool x.f4] := ⟨[.int .i64 x.f0], [.int .i64 x.f1, .int .i64 x.f2, .int .i64 x.f3, .bool x.f4], rfl, rfl, ⟨[.int .i64 x.f1], [.int .i64 x.f2, .int .i64 x.f3, .bool x.f4], rfl, rfl, ⟨[.int .i64 x.f2], [.int .i64 x.f3, .bool x.f4], rfl, rfl, ⟨[.int .i64 x.f3], [.bool x.f4], rfl, rfl, rfl⟩⟩⟩⟩
theorem k37_mkM (w : World) (base : Nat) (ok : Nat → Prop) (x : S37)  : k37.M w base ok x [.int .i64 x.f0, .int .i64 x.f1, .int .i64 x.f2, .int .i64 x.f3, .bool x.f4] := ⟨[.int .i64 x.f0], [.int .i64 x.f1, .int .i64 x.f2, .int .i64 x.f3, .bool x.f4], rfl, rfl, ⟨[.int .i64 x.f1], [.int .i64 x.f2, .int .i64 x.f3, .bool x.f4], rfl, rfl, ⟨[.int .i64 x.f2], [.int .i64 x.f3, .bool x.f4], rfl, rfl, ⟨[.int .i64 x.f3], [.bool x.f4], rfl, rfl, rfl⟩⟩⟩⟩
def rd_T37 (xs : List S37) (i : Int) : S37 := xs.getD i.toNat z37
theorem at_T37 {w : World} {A : Option Addr} {n : Nat} {xs : List S37} (h : Kd.C k37 w A n xs) (i : Int) (h0 : 0 ≤ i) (h1 : i < n) : ∃ ad , A = some ad ∧ w.cell? (ad.add (i.toNat * 5)) = some (.int .i64 (rd_T37 xs i).f0) ∧ w.cell? ⟨(ad.add (i.toNat * 5)).block, (ad.add (i.toNat * 5)).off + 1, none⟩ = some (.int .i64 (rd_T37 xs i).f1) ∧ w.cell? ⟨(ad.add (i.toNat * 5)).block, (ad.add (i.toNat * 5)).off + 2, none⟩ = some (.int .i64 (rd_T37 xs i).f2) ∧ w.cell? ⟨(ad.add (i.toNat * 5)).block, (ad.add (i.toNat * 5)).off + 3, none⟩ = some (.int .i64 (rd_T37 xs i).f3) ∧ w.cell? ⟨(ad.add (i.toNat * 5)).block, (ad.add (i.toNat * 5)).off + 4, none⟩ = some (.bool (rd_T37 xs i).f4) := by
  obtain ⟨ad, c, e, _, hK, hc0⟩ := Kd.C_get h z37 i h0 h1
  have hc : ∀ j u, c[j]? = some u → w.cell? (ad.add (i.toNat * 5 + j)) = some u := hc0
  obtain rfl := k37_open hK
  exact ⟨ad, e, hc 0 _ rfl, by rw [← add_field _ _ 1 (by omega)]; exact hc 1 _ rfl, by rw [← add_field _ _ 2 (by omega)]; exact hc 2 _ rfl, by rw [← add_field _ _ 3 (by omega)]; exact hc 3 _ rfl, by rw [← add_field _ _ 4 (by omega)]; exact hc 4 _ rfl⟩

/-! #### struct type 39 -/
structure S39 where
  f0 : S37
  f1 : Int
  f2 : Int
def z39 : S39 := ⟨z37, (0 : Int), (0 : Int)⟩
def k39 : Kd S39 := Kd.iso (Kd.pair k37 (Kd.pair (Kd.int .i64) (Kd.int .i64))) (fun x : S39 => (x.f0, x.f1, x.f2))
theorem k39_open {w : World} {x : S39} {cs : List Value} (h : k39.K w x cs) : cs = [.int .i64 x.f0.f0, .int .i64 x.f0.f1, .int .i64 x.f0.f2, .int .i64 x.f0.f3, .bool x.f0.f4, .int .i64 x.f1, .int .i64 x.f2] := by
  obtain ⟨_, _, rfl, s0, ⟨_, _, rfl, rfl, rfl⟩⟩ := h
  obtain rfl := k37_open s0
  exact rfl
theorem k39_openM {w : World} {base : Nat} {ok : Nat → Prop} {x : S39} {cs : List Value} (h : k39.M w base ok x cs) : cs = [.int .i64 x.f0.f0, .int .i64 x.f0.f1, .int .i64 x.f0.f2, .int .i64 x.f0.f3, .bool x.f0.f4, .int .i64 x.f1, .int .i64 x.f2] := by
  obtain ⟨_, _, rfl, s0, ⟨_, _, rfl, rfl, rfl⟩⟩ := h
  obtain rfl := k37_openM s0
  exact rfl
theorem k39_mk (w : World) (x : S39)  : k39.K w x [.int .i64 x.f0.f0, .int .i64 x.f0.f1, .int .i64 x.f0.f2, .int .i64 x.f0.f3, .bool x.f0.f4, .int .i64 x.f1, .int .i64 x.f2] := ⟨[.int .i64 x.f0.f0, .int .i64 x.f0.f1, .int .i64 x.f0.f2, .int .i64 x.f0.f3, .bool x.f0.f4], [.int .i64 x.f1, .int .i64 x.f2], rfl, (k37_mk w x.f0 ), ⟨[.int .i64 x.f1], [.int .i64 x.f2], rfl, rfl, rfl⟩⟩
theorem k39_mkM (w : World) (base : Nat) (ok : Nat → Prop) (x : S39)  : k39.M w base ok x [.int .i64 x.f0.f0, .int .i64 x.f0.f1, .int .i64 x.f0.f2, .int .i64 x.f0.f3, .bool x.f0.f4, .int .i64 x.f1, .int .i64 x.f2] := ⟨[.int .i64 x.f0.f0, .int .i64 x.f0.f1, .int .i64 x.f0.f2, .int .i64 x.f0.f3, .bool x.f0.f4], [.int .i64 x.f1, .int .i64 x.f2], rfl, (k37_mkM w base ok x.f0 ), ⟨[.int .i64 x.f1], [.int .i64 x.f2], rfl, rfl, rfl⟩⟩
def rd_T39 (xs : List S39) (i : Int) : S39 := xs.getD i.toNat z39
theorem at_T39 {w : World} {A : Option Addr} {n : Nat} {xs : List S39} (h : Kd.C k39 w A n xs) (i : Int) (h0 : 0 ≤ i) (h1 : i < n) : ∃ ad , A = some ad ∧ w.cell? (ad.add (i.toNat * 7)) = some (.int .i64 (rd_T39 xs i).f0.f0) ∧ w.cell? ⟨(ad.add (i.toNat * 7)).block, (ad.add (i.toNat * 7)).off + 1, none⟩ = some (.int .i64 (rd_T39 xs i).f0.f1) ∧ w.cell? ⟨(ad.add (i.toNat * 7)).block, (ad.add (i.toNat * 7)).off + 2, none⟩ = some (.int .i64 (rd_T39 xs i).f0.f2) ∧ w.cell? ⟨(ad.add (i.toNat * 7)).block, (ad.add (i.toNat * 7)).off + 3, none⟩ = some (.int .i64 (rd_T39 xs i).f0.f3) ∧ w.cell? ⟨(ad.add (i.toNat * 7)).block, (ad.add (i.toNat * 7)).off + 4, none⟩ = some (.bool (rd_T39 xs i).f0.f4) ∧ w.cell? ⟨(ad.add (i.toNat * 7)).block, (ad.add (i.toNat * 7)).off + 5, none⟩ = some (.int .i64 (rd_T39 xs i).f1) ∧ w.cell? ⟨(ad.add (i.toNat * 7)).block, (ad.add (i.toNat * 7)).off + 6, none⟩ = some (.int .i64 (rd_T39 xs i).f2) := by
  obtain ⟨ad, c, e, _, hK, hc0⟩ := Kd.C_get h z39 i h0 h1
  have hc : ∀ j u, c[j]? = some u → w.cell? (ad.add (i.toNat * 7 + j)) = some u := hc0
  obtain rfl := k39_open hK
  exact ⟨ad, e, hc 0 _ rfl, by rw [← add_field _ _ 1 (by omega)]; exact hc 1 _ rfl, by rw [← add_field _ _ 2 (by omega)]; exact hc 2 _ rfl, by rw [← add_field _ _ 3 (by omega)]; exact hc 3 _ rfl, by rw [← add_field _ _ 4 (by omega)]; exact hc 4 _ rfl, by rw [← add_field _ _ 5 (by omega)]; exact hc 5 _ rfl, by rw [← add_field _ _ 6 (by omega)]; exact hc 6 _ rfl⟩

def rd_L4 (xs : List (List S39)) (i : Int) : (List S39) := xs.getD i.toNat ([] : List S39)
theorem at_L4 {w : World} {A : Option Addr} {n : Nat} {xs : List (List S39)} (h : Kd.C (Kd.slice 39 k39) w A n xs) (i : Int) (h0 : 0 ≤ i) (h1 : i < n) : ∃ ad A0 c0, A = some ad ∧ w.cell? (ad.add i.toNat) = some (.slice A0 (rd_L4 xs i).length c0) ∧ (rd_L4 xs i).length ≤ c0 ∧ k39.C w A0 (rd_L4 xs i).length (rd_L4 xs i) := by
  obtain ⟨ad, c, e, _, hK, hc0⟩ := Kd.C_get h ([] : List S39) i h0 h1
  have hc : ∀ j u, c[j]? = some u → w.cell? (ad.add (i.toNat * 1 + j)) = some u := hc0
  obtain ⟨A0, c0, rfl, l0, g0⟩ := hK
  exact ⟨ad, A0, c0, e, by have hq := hc 0 _ rfl; rwa [Nat.mul_one, Nat.add_zero] at hq, l0, g0⟩

def rd_L5 (xs : List (List S37)) (i : Int) : (List S37) := xs.getD i.toNat ([] : List S37)
theorem at_L5 {w : World} {A : Option Addr} {n : Nat} {xs : List (List S37)} (h : Kd.C (Kd.slice 37 k37) w A n xs) (i : Int) (h0 : 0 ≤ i) (h1 : i < n) : ∃ ad A0 c0, A = some ad ∧ w.cell? (ad.add i.toNat) = some (.slice A0 (rd_L5 xs i).length c0) ∧ (rd_L5 xs i).length ≤ c0 ∧ k37.C w A0 (rd_L5 xs i).length (rd_L5 xs i) := by
  obtain ⟨ad, c, e, _, hK, hc0⟩ := Kd.C_get h ([] : List S37) i h0 h1
  have hc : ∀ j u, c[j]? = some u → w.cell? (ad.add (i.toNat * 1 + j)) = some u := hc0
  obtain ⟨A0, c0, rfl, l0, g0⟩ := hK
  exact ⟨ad, A0, c0, e, by have hq := hc 0 _ rfl; rwa [Nat.mul_one, Nat.add_zero] at hq, l0, g0⟩

def rd_L6 (xs : List (List Int)) (i : Int) : (List Int) := xs.getD i.toNat ([] : List Int)
theorem at_L6 {w : World} {A : Option Addr} {n : Nat} {xs : List (List Int)} (h : Kd.C (Kd.slice 3 (Kd.int .i64)) w A n xs) (i : Int) (h0 : 0 ≤ i) (h1 : i < n) : ∃ ad A0 c0, A = some ad ∧ w.cell? (ad.add i.toNat) = some (.slice A0 (rd_L6 xs i).length c0) ∧ (rd_L6 xs i).length ≤ c0 ∧ (Kd.int .i64).C w A0 (rd_L6 xs i).length (rd_L6 xs i) := by
  obtain ⟨ad, c, e, _, hK, hc0⟩ := Kd.C_get h ([] : List Int) i h0 h1
  have hc : ∀ j u, c[j]? = some u → w.cell? (ad.add (i.toNat * 1 + j)) = some u := hc0
  obtain ⟨A0, c0, rfl, l0, g0⟩ := hK
  exact ⟨ad, A0, c0, e, by have hq := hc 0 _ rfl; rwa [Nat.mul_one, Nat.add_zero] at hq, l0, g0⟩

/-! #### struct type 41 -/
structure S41 where
  f0 : Bool
  f1 : Int
  f2 : Int
def z41 : S41 := ⟨false, (0 : Int), (0 : Int)⟩
def k41 : Kd S41 := Kd.iso (Kd.pair Kd.bool (Kd.pair (Kd.int .i64) (Kd.int .i64))) (fun x : S41 => (x.f0, x.f1, x.f2))
theorem k41_open {w : World} {x : S41} {cs : List Value} (h : k41.K w x cs) : cs = [.bool x.f0, .int .i64 x.f1, .int .i64 x.f2] := by
  obtain ⟨_, _, rfl, rfl, ⟨_, _, rfl, rfl, rfl⟩⟩ := h
  exact rfl
theorem k41_openM {w : World} {base : Nat} {ok : Nat → Prop} {x : S41} {cs : List Value} (h : k41.M w base ok x cs) : cs = [.bool x.f0, .int .i64 x.f1, .int .i64 x.f2] := by
  obtain ⟨_, _, rfl, rfl, ⟨_, _, rfl, rfl, rfl⟩⟩ := h
  exact rfl
theorem k41_mk (w : World) (x : S41)  : k41.K w x [.bool x.f0, .int .i64 x.f1, .int .i64 x.f2] := ⟨[.bool x.f0], [.int .i64 x.f1, .int .i64 x.f2], rfl, rfl, ⟨[.int .i64 x.f1], [.int .i64 x.f2], rfl, rfl, rfl⟩⟩
theorem k41_mkM (w : World) (base : Nat) (ok : Nat → Prop) (x : S41)  : k41.M w base ok x [.bool x.f0, .int .i64 x.f1, .int .i64 x.f2] := ⟨[.bool x.f0], [.int .i64 x.f1, .int .i64 x.f2], rfl, rfl, ⟨[.int .i64 x.f1], [.int .i64 x.f2], rfl, rfl, rfl⟩⟩
def rd_T41 (xs : List S41) (i : Int) : S41 := xs.getD i.toNat z41
theorem at_T41 {w : World} {A : Option Addr} {n : Nat} {xs : List S41} (h : Kd.C k41 w A n xs) (i : Int) (h0 : 0 ≤ i) (h1 : i < n) : ∃ ad , A = some ad ∧ w.cell? (ad.add (i.toNat * 3)) = some (.bool (rd_T41 xs i).f0) ∧ w.cell? ⟨(ad.add (i.toNat * 3)).block, (ad.add (i.toNat * 3)).off + 1, none⟩ = some (.int .i64 (rd_T41 xs i).f1) ∧ w.cell? ⟨(ad.add (i.toNat * 3)).block, (ad.add (i.toNat * 3)).off + 2, none⟩ = some (.int .i64 (rd_T41 xs i).f2) := by
  obtain ⟨ad, c, e, _, hK, hc0⟩ := Kd.C_get h z41 i h0 h1
  have hc : ∀ j u, c[j]? = some u → w.cell? (ad.add (i.toNat * 3 + j)) = some u := hc0
  obtain rfl := k41_open hK
  exact ⟨ad, e, hc 0 _ rfl, by rw [← add_field _ _ 1 (by omega)]; exact hc 1 _ rfl, by rw [← add_field _ _ 2 (by omega)]; exact hc 2 _ rfl⟩

def rd_L8 (xs : List (List S41)) (i : Int) : (List S41) := xs.getD i.toNat ([] : List S41)
theorem at_L8 {w : World} {A : Option Addr} {n : Nat} {xs : List (List S41)} (h : Kd.C (Kd.slice 41 k41) w A n xs) (i : Int) (h0 : 0 ≤ i) (h1 : i < n) : ∃ ad A0 c0, A = some ad ∧ w.cell? (ad.add i.toNat) = some (.slice A0 (rd_L8 xs i).length c0) ∧ (rd_L8 xs i).length ≤ c0 ∧ k41.C w A0 (rd_L8 xs i).length (rd_L8 xs i) := by
  obtain ⟨ad, c, e, _, hK, hc0⟩ := Kd.C_get h ([] : List S41) i h0 h1
  have hc : ∀ j u, c[j]? = some u → w.cell? (ad.add (i.toNat * 1 + j)) = some u := hc0
  obtain ⟨A0, c0, rfl, l0, g0⟩ := hK
  exact ⟨ad, A0, c0, e, by have hq := hc 0 _ rfl; rwa [Nat.mul_one, Nat.add_zero] at hq, l0, g0⟩

/-! #### struct type 27 -/
structure S27 where
  f0 : (List S37)
  f1 : (List Int)
  f2 : (List S41)
  f3 : Int
def z27 : S27 := ⟨([] : List S37), ([] : List Int), ([] : List S41), (0 : Int)⟩
def k27 : Kd S27 := Kd.iso (Kd.pair (Kd.slice 37 k37) (Kd.pair (Kd.slice 3 (Kd.int .i64)) (Kd.pair (Kd.slice 41 k41) (Kd.int .i64)))) (fun x : S27 => (x.f0, x.f1, x.f2, x.f3))
theorem k27_open {w : World} {x : S27} {cs : List Value} (h : k27.K w x cs) : ∃ A0 c0 A1 c1 A2 c2, cs = [.slice A0 x.f0.length c0, .slice A1 x.f1.length c1, .slice A2 x.f2.length c2, .int .i64 x.f3] ∧ x.f0.length ≤ c0 ∧ k37.C w A0 x.f0.length x.f0 ∧ x.f1.length ≤ c1 ∧ (Kd.int .i64).C w A1 x.f1.length x.f1 ∧ x.f2.length ≤ c2 ∧ k41.C w A2 x.f2.length x.f2 := by
  obtain ⟨_, _, rfl, ⟨A0, c0, rfl, l0, g0⟩, ⟨_, _, rfl, ⟨A1, c1, rfl, l1, g1⟩, ⟨_, _, rfl, ⟨A2, c2, rfl, l2, g2⟩, rfl⟩⟩⟩ := h
  exact ⟨A0, c0, A1, c1, A2, c2, rfl, l0, g0, l1, g1, l2, g2⟩
theorem k27_openM {w : World} {base : Nat} {ok : Nat → Prop} {x : S27} {cs : List Value} (h : k27.M w base ok x cs) : ∃ v0 v1 v2, cs = [v0, v1, v2, .int .i64 x.f3] ∧ k37.R 37 w base ok v0 x.f0 ∧ (Kd.int .i64).R 3 w base ok v1 x.f1 ∧ k41.R 41 w base ok v2 x.f2 := by
  obtain ⟨_, _, rfl, ⟨v0, rfl, g0⟩, ⟨_, _, rfl, ⟨v1, rfl, g1⟩, ⟨_, _, rfl, ⟨v2, rfl, g2⟩, rfl⟩⟩⟩ := h
  exact ⟨v0, v1, v2, rfl, g0, g1, g2⟩
theorem k27_mk (w : World) (x : S27) {A0 : Option Addr} {c0 : Nat} (l0 : x.f0.length ≤ c0) (g0 : k37.C w A0 x.f0.length x.f0) {A1 : Option Addr} {c1 : Nat} (l1 : x.f1.length ≤ c1) (g1 : (Kd.int .i64).C w A1 x.f1.length x.f1) {A2 : Option Addr} {c2 : Nat} (l2 : x.f2.length ≤ c2) (g2 : k41.C w A2 x.f2.length x.f2) : k27.K w x [.slice A0 x.f0.length c0, .slice A1 x.f1.length c1, .slice A2 x.f2.length c2, .int .i64 x.f3] := ⟨[.slice A0 x.f0.length c0], [.slice A1 x.f1.length c1, .slice A2 x.f2.length c2, .int .i64 x.f3], rfl, ⟨A0, c0, rfl, l0, g0⟩, ⟨[.slice A1 x.f1.length c1], [.slice A2 x.f2.length c2, .int .i64 x.f3], rfl, ⟨A1, c1, rfl, l1, g1⟩, ⟨[.slice A2 x.f2.length c2], [.int .i64 x.f3], rfl, ⟨A2, c2, rfl, l2, g2⟩, rfl⟩⟩⟩
theorem k27_mkM (w : World) (base : Nat) (ok : Nat → Prop) (x : S27) {v0 : Value} (g0 : k37.R 37 w base ok v0 x.f0) {v1 : Value} (g1 : (Kd.int .i64).R 3 w base ok v1 x.f1) {v2 : Value} (g2 : k41.R 41 w base ok v2 x.f2) : k27.M w base ok x [v0, v1, v2, .int .i64 x.f3] := ⟨[v0], [v1, v2, .int .i64 x.f3], rfl, ⟨v0, rfl, g0⟩, ⟨[v1], [v2, .int .i64 x.f3], rfl, ⟨v1, rfl, g1⟩, ⟨[v2], [.int .i64 x.f3], rfl, ⟨v2, rfl, g2⟩, rfl⟩⟩⟩
def rd_T27 (xs : List S27) (i : Int) : S27 := xs.getD i.toNat z27
theorem at_T27 {w : World} {A : Option Addr} {n : Nat} {xs : List S27} (h : Kd.C k27 w A n xs) (i : Int) (h0 : 0 ≤ i) (h1 : i < n) : ∃ ad A0 c0 A1 c1 A2 c2, A = some ad ∧ w.cell? (ad.add (i.toNat * 4)) = some (.slice A0 (rd_T27 xs i).f0.length c0) ∧ w.cell? ⟨(ad.add (i.toNat * 4)).block, (ad.add (i.toNat * 4)).off + 1, none⟩ = some (.slice A1 (rd_T27 xs i).f1.length c1) ∧ w.cell? ⟨(ad.add (i.toNat * 4)).block, (ad.add (i.toNat * 4)).off + 2, none⟩ = some (.slice A2 (rd_T27 xs i).f2.length c2) ∧ w.cell? ⟨(ad.add (i.toNat * 4)).block, (ad.add (i.toNat * 4)).off + 3, none⟩ = some (.int .i64 (rd_T27 xs i).f3) ∧ (rd_T27 xs i).f0.length ≤ c0 ∧ k37.C w A0 (rd_T27 xs i).f0.length (rd_T27 xs i).f0 ∧ (rd_T27 xs i).f1.length ≤ c1 ∧ (Kd.int .i64).C w A1 (rd_T27 xs i).f1.length (rd_T27 xs i).f1 ∧ (rd_T27 xs i).f2.length ≤ c2 ∧ k41.C w A2 (rd_T27 xs i).f2.length (rd_T27 xs i).f2 := by
  obtain ⟨ad, c, e, _, hK, hc0⟩ := Kd.C_get h z27 i h0 h1
  have hc : ∀ j u, c[j]? = some u → w.cell? (ad.add (i.toNat * 4 + j)) = some u := hc0
  obtain ⟨A0, c0, A1, c1, A2, c2, rfl, l0, g0, l1, g1, l2, g2⟩ := k27_open hK
  exact ⟨ad, A0, c0, A1, c1, A2, c2, e, hc 0 _ rfl, by rw [← add_field _ _ 1 (by omega)]; exact hc 1 _ rfl, by rw [← add_field _ _ 2 (by omega)]; exact hc 2 _ rfl, by rw [← add_field _ _ 3 (by omega)]; exact hc 3 _ rfl, l0, g0, l1, g1, l2, g2⟩

def wf37 (x : S37) : Prop := I64 x.f0 ∧ I64 x.f1 ∧ I64 x.f2 ∧ I64 x.f3 ∧ True
theorem rd37 : Rd Try.prog k37 37 wf37 := Rd.mono (Rd.struct (fun x : S37 => (x.f0, x.f1, x.f2, x.f3, x.f4)) (fun p => (⟨p.1, p.2.1, p.2.2.1, p.2.2.2.1, p.2.2.2.2⟩ : S37)) (fun _ => rfl) Try.underlying37 (by kernel_rfl) (RdF.cons (Rd.int Try.underlying3) rfl rfl (by kernel_rfl) (RdF.cons (Rd.int Try.underlying3) rfl rfl (by kernel_rfl) (RdF.cons (Rd.int Try.underlying3) rfl rfl (by kernel_rfl) (RdF.cons (Rd.int Try.underlying3) rfl rfl (by kernel_rfl) (RdF.last (Rd.bool Try.underlying4) rfl rfl (by kernel_rfl))))))) (fun _ h => h)
def wf39 (x : S39) : Prop := wf37 x.f0 ∧ I64 x.f1 ∧ I64 x.f2
theorem rd39 : Rd Try.prog k39 39 wf39 := Rd.mono (Rd.struct (fun x : S39 => (x.f0, x.f1, x.f2)) (fun p => (⟨p.1, p.2.1, p.2.2⟩ : S39)) (fun _ => rfl) Try.underlying39 (by kernel_rfl) (RdF.cons rd37 rfl rfl (by kernel_rfl) (RdF.cons (Rd.int Try.underlying3) rfl rfl (by kernel_rfl) (RdF.last (Rd.int Try.underlying3) rfl rfl (by kernel_rfl))))) (fun _ h => h)
def wf41 (x : S41) : Prop := True ∧ I64 x.f1 ∧ I64 x.f2
theorem rd41 : Rd Try.prog k41 41 wf41 := Rd.mono (Rd.struct (fun x : S41 => (x.f0, x.f1, x.f2)) (fun p => (⟨p.1, p.2.1, p.2.2⟩ : S41)) (fun _ => rfl) Try.underlying41 (by kernel_rfl) (RdF.cons (Rd.bool Try.underlying4) rfl rfl (by kernel_rfl) (RdF.cons (Rd.int Try.underlying3) rfl rfl (by kernel_rfl) (RdF.last (Rd.int Try.underlying3) rfl rfl (by kernel_rfl))))) (fun _ h => h)
def wf27 (x : S27) : Prop := (fun l => (∀ y ∈ l, wf37 y) ∧ l.length ≤ 9223372036854775807) x.f0 ∧ (fun l => (∀ y ∈ l, I64 y) ∧ l.length ≤ 9223372036854775807) x.f1 ∧ (fun l => (∀ y ∈ l, wf41 y) ∧ l.length ≤ 9223372036854775807) x.f2 ∧ I64 x.f3
theorem rd27 : Rd Try.prog k27 27 wf27 := Rd.mono (Rd.struct (fun x : S27 => (x.f0, x.f1, x.f2, x.f3)) (fun p => (⟨p.1, p.2.1, p.2.2.1, p.2.2.2⟩ : S27)) (fun _ => rfl) Try.underlying27 (by kernel_rfl) (RdF.cons (Rd.slice Try.underlying23 (by kernel_rfl) rd37) rfl rfl (by kernel_rfl) (RdF.cons (Rd.slice Try.underlying24 (by kernel_rfl) (Rd.int Try.underlying3)) rfl rfl (by kernel_rfl) (RdF.cons (Rd.slice Try.underlying25 (by kernel_rfl) rd41) rfl rfl (by kernel_rfl) (RdF.last (Rd.int Try.underlying3) rfl rfl (by kernel_rfl)))))) (fun _ h => h)
theorem eqA37 (d : Nat) (w : World) (x0 y0 : Int) (x1 y1 : Int) (x2 y2 : Int) (x3 y3 : Int) (x4 y4 : Bool) :
    (Op.equalIn (d + 2) 37 (.agg #[.int .i64 x0, .int .i64 x1, .int .i64 x2, .int .i64 x3, .bool x4]) (.agg #[.int .i64 y0, .int .i64 y1, .int .i64 y2, .int .i64 y3, .bool y4])).run Try.prog w = .ok (x0 == y0 && (x1 == y1 && (x2 == y2 && (x3 == y3 && (x4 == y4))))) w := by
  refine eqA_of Try.underlying37 (by kernel_rfl) ?_
  refine eqf_cons (by rfl) (by go_simp; rfl) (by go_simp; rfl) (by go_simp) ?_
  refine eqf_cons (by rfl) (by go_simp; rfl) (by go_simp; rfl) (by go_simp) ?_
  refine eqf_cons (by rfl) (by go_simp; rfl) (by go_simp; rfl) (by go_simp) ?_
  refine eqf_cons (by rfl) (by go_simp; rfl) (by go_simp; rfl) (by go_simp) ?_
  exact eqf_last (by rfl) (by go_simp; rfl) (by go_simp; rfl) (by go_simp)
theorem eqA39 (d : Nat) (w : World) (x0 y0 : Int) (x1 y1 : Int) (x2 y2 : Int) (x3 y3 : Int) (x4 y4 : Bool) (x5 y5 : Int) (x6 y6 : Int) :
    (Op.equalIn (d + 3) 39 (.agg #[.int .i64 x0, .int .i64 x1, .int .i64 x2, .int .i64 x3, .bool x4, .int .i64 x5, .int .i64 x6]) (.agg #[.int .i64 y0, .int .i64 y1, .int .i64 y2, .int .i64 y3, .bool y4, .int .i64 y5, .int .i64 y6])).run Try.prog w = .ok ((x0 == y0 && (x1 == y1 && (x2 == y2 && (x3 == y3 && (x4 == y4))))) && (x5 == y5 && (x6 == y6))) w := by
  refine eqA_of Try.underlying39 (by kernel_rfl) ?_
  refine eqf_cons (by rfl) (by go_simp) (by go_simp) (eqA37 (d + 0) w _ _ _ _ _ _ _ _ _ _) ?_
  refine eqf_cons (by rfl) (by go_simp; rfl) (by go_simp; rfl) (by go_simp) ?_
  exact eqf_last (by rfl) (by go_simp; rfl) (by go_simp; rfl) (by go_simp)
theorem eqA41 (d : Nat) (w : World) (x0 y0 : Bool) (x1 y1 : Int) (x2 y2 : Int) :
    (Op.equalIn (d + 2) 41 (.agg #[.bool x0, .int .i64 x1, .int .i64 x2]) (.agg #[.bool y0, .int .i64 y1, .int .i64 y2])).run Try.prog w = .ok (x0 == y0 && (x1 == y1 && (x2 == y2))) w := by
  refine eqA_of Try.underlying41 (by kernel_rfl) ?_
  refine eqf_cons (by rfl) (by go_simp; rfl) (by go_simp; rfl) (by go_simp) ?_
  refine eqf_cons (by rfl) (by go_simp; rfl) (by go_simp; rfl) (by go_simp) ?_
  exact eqf_last (by rfl) (by go_simp; rfl) (by go_simp; rfl) (by go_simp)
def eqB37 (x y : S37) : Bool := x.f0 == y.f0 && (x.f1 == y.f1 && (x.f2 == y.f2 && (x.f3 == y.f3 && (x.f4 == y.f4))))
theorem eqB37_iff (x y : S37) : eqB37 x y = true ↔ x = y := by
  obtain ⟨a0, a1, a2, a3, a4⟩ := x
  obtain ⟨b0, b1, b2, b3, b4⟩ := y
  simp only [eqB37, Bool.and_eq_true, beq_iff_eq, S37.mk.injEq]
instance : DecidableEq S37 := fun x y => decidable_of_iff _ (eqB37_iff x y)
theorem eqB37_dec (x y : S37) : eqB37 x y = decide (x = y) := by rw [Bool.eq_iff_iff, eqB37_iff, decide_eq_true_iff]
theorem eqB37_self (x : S37) : eqB37 x x = true := (eqB37_iff x x).2 rfl
def eqB39 (x y : S39) : Bool := eqB37 x.f0 y.f0 && (x.f1 == y.f1 && (x.f2 == y.f2))
theorem eqB39_iff (x y : S39) : eqB39 x y = true ↔ x = y := by
  obtain ⟨a0, a1, a2⟩ := x
  obtain ⟨b0, b1, b2⟩ := y
  simp only [eqB39, Bool.and_eq_true, beq_iff_eq, eqB37_iff, S39.mk.injEq]
instance : DecidableEq S39 := fun x y => decidable_of_iff _ (eqB39_iff x y)
theorem eqB39_dec (x y : S39) : eqB39 x y = decide (x = y) := by rw [Bool.eq_iff_iff, eqB39_iff, decide_eq_true_iff]
theorem eqB39_self (x : S39) : eqB39 x x = true := (eqB39_iff x x).2 rfl
def eqB41 (x y : S41) : Bool := x.f0 == y.f0 && (x.f1 == y.f1 && (x.f2 == y.f2))
theorem eqB41_iff (x y : S41) : eqB41 x y = true ↔ x = y := by
  obtain ⟨a0, a1, a2⟩ := x
  obtain ⟨b0, b1, b2⟩ := y
  simp only [eqB41, Bool.and_eq_true, beq_iff_eq, S41.mk.injEq]
instance : DecidableEq S41 := fun x y => decidable_of_iff _ (eqB41_iff x y)
theorem eqB41_dec (x y : S41) : eqB41 x y = decide (x = y) := by rw [Bool.eq_iff_iff, eqB41_iff, decide_eq_true_iff]
theorem eqB41_self (x : S41) : eqB41 x x = true := (eqB41_iff x x).2 rfl
theorem info3 : (Try.prog.info? 3).map (fun i => (i.zero, i.size, i.bytes)) = some (some (.int .i64 0), 1, 8) := by kernel_rfl
theorem info4 : (Try.prog.info? 4).map (fun i => (i.zero, i.size, i.bytes)) = some (some (.bool false), 1, 1) := by kernel_rfl
theorem info27 : (Try.prog.info? 27).map (fun i => (i.zero, i.size, i.bytes)) = some (some (.agg #[(.slice none 0 0), (.slice none 0 0), (.slice none 0 0), (.int .i64 0)]), 4, 80) := by kernel_rfl
theorem info37 : (Try.prog.info? 37).map (fun i => (i.zero, i.size, i.bytes)) = some (some (.agg #[(.int .i64 0), (.int .i64 0), (.int .i64 0), (.int .i64 0), (.bool false)]), 5, 40) := by kernel_rfl
theorem info39 : (Try.prog.info? 39).map (fun i => (i.zero, i.size, i.bytes)) = some (some (.agg #[(.int .i64 0), (.int .i64 0), (.int .i64 0), (.int .i64 0), (.bool false), (.int .i64 0), (.int .i64 0)]), 7, 56) := by kernel_rfl
theorem info41 : (Try.prog.info? 41).map (fun i => (i.zero, i.size, i.bytes)) = some (some (.agg #[(.bool false), (.int .i64 0), (.int .i64 0)]), 3, 24) := by kernel_rfl
abbrev c37 (x : S37) : List Value := [.int .i64 x.f0, .int .i64 x.f1, .int .i64 x.f2, .int .i64 x.f3, .bool x.f4]
abbrev v37 (x : S37) : Value := .agg #[.int .i64 x.f0, .int .i64 x.f1, .int .i64 x.f2, .int .i64 x.f3, .bool x.f4]
abbrev o37 (x : S37) : Obj := .cells #[.int .i64 x.f0, .int .i64 x.f1, .int .i64 x.f2, .int .i64 x.f3, .bool x.f4] 37
theorem cells37 {w : World} {g : Nat} {x : S37} (h : w.heap[g]? = some (o37 x)) : w.cell? ⟨g, 0, none⟩ = some (.int .i64 x.f0) ∧ w.cell? ⟨g, 1, none⟩ = some (.int .i64 x.f1) ∧ w.cell? ⟨g, 2, none⟩ = some (.int .i64 x.f2) ∧ w.cell? ⟨g, 3, none⟩ = some (.int .i64 x.f3) ∧ w.cell? ⟨g, 4, none⟩ = some (.bool x.f4) := ⟨(blk_cell h 0).trans rfl, (blk_cell h 1).trans rfl, (blk_cell h 2).trans rfl, (blk_cell h 3).trans rfl, (blk_cell h 4).trans rfl⟩
abbrev c39 (x : S39) : List Value := [.int .i64 x.f0.f0, .int .i64 x.f0.f1, .int .i64 x.f0.f2, .int .i64 x.f0.f3, .bool x.f0.f4, .int .i64 x.f1, .int .i64 x.f2]
abbrev v39 (x : S39) : Value := .agg #[.int .i64 x.f0.f0, .int .i64 x.f0.f1, .int .i64 x.f0.f2, .int .i64 x.f0.f3, .bool x.f0.f4, .int .i64 x.f1, .int .i64 x.f2]
abbrev o39 (x : S39) : Obj := .cells #[.int .i64 x.f0.f0, .int .i64 x.f0.f1, .int .i64 x.f0.f2, .int .i64 x.f0.f3, .bool x.f0.f4, .int .i64 x.f1, .int .i64 x.f2] 39
theorem cells39 {w : World} {g : Nat} {x : S39} (h : w.heap[g]? = some (o39 x)) : w.cell? ⟨g, 0, none⟩ = some (.int .i64 x.f0.f0) ∧ w.cell? ⟨g, 1, none⟩ = some (.int .i64 x.f0.f1) ∧ w.cell? ⟨g, 2, none⟩ = some (.int .i64 x.f0.f2) ∧ w.cell? ⟨g, 3, none⟩ = some (.int .i64 x.f0.f3) ∧ w.cell? ⟨g, 4, none⟩ = some (.bool x.f0.f4) ∧ w.cell? ⟨g, 5, none⟩ = some (.int .i64 x.f1) ∧ w.cell? ⟨g, 6, none⟩ = some (.int .i64 x.f2) := ⟨(blk_cell h 0).trans rfl, (blk_cell h 1).trans rfl, (blk_cell h 2).trans rfl, (blk_cell h 3).trans rfl, (blk_cell h 4).trans rfl, (blk_cell h 5).trans rfl, (blk_cell h 6).trans rfl⟩
abbrev c41 (x : S41) : List Value := [.bool x.f0, .int .i64 x.f1, .int .i64 x.f2]
abbrev v41 (x : S41) : Value := .agg #[.bool x.f0, .int .i64 x.f1, .int .i64 x.f2]
abbrev o41 (x : S41) : Obj := .cells #[.bool x.f0, .int .i64 x.f1, .int .i64 x.f2] 41
theorem cells41 {w : World} {g : Nat} {x : S41} (h : w.heap[g]? = some (o41 x)) : w.cell? ⟨g, 0, none⟩ = some (.bool x.f0) ∧ w.cell? ⟨g, 1, none⟩ = some (.int .i64 x.f1) ∧ w.cell? ⟨g, 2, none⟩ = some (.int .i64 x.f2) := ⟨(blk_cell h 0).trans rfl, (blk_cell h 1).trans rfl, (blk_cell h 2).trans rfl⟩
end Go.Proofs.Ytcnhjbpgjemnhaa.X
