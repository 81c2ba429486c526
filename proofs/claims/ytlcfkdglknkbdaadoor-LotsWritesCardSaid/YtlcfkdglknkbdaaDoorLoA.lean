/- lots: bytes drawn from an urn. -/
import Derived.Test.YtlcfkdglknkbdaaDoorSt
import Derived.Test.YtlcfkdglknkbdaaDoorEr
import Derived.Test.YtlcfkdglknkbdaaDoorWInvWords
namespace Go.Proofs.YtlcfkdglknkbdaaDoor.Lo
open Go.RowKit Go.Proofs.YtlcfkdglknkbdaaDoorW.PrintWords Go.Proofs.YtlcfkdglknkbdaaDoorW.PrintLast Go.Proofs.YtlcfkdglknkbdaaDoorW.PrintMore Go.Proofs.YtlcfkdglknkbdaaDoor.X
set_option linter.unusedVariables false
set_option linter.unusedSimpArgs false

/-- Byte i of a string; behind the last one 0. -/
def bt (s : ByteArray) (i : Nat) : Int := if h : i < s.size then ((s[i]'h).toNat : Int) else 0
theorem bt_nonneg (s : ByteArray) (i : Nat) : 0 ≤ bt s i := by unfold bt; split <;> omega
theorem bt_lt (s : ByteArray) (i : Nat) : bt s i < 256 := by
  unfold bt
  split
  · rename_i h; have := (s[i]'h).toNat_lt; omega
  · omega
/-- An urn: a string and how far it is drawn. -/
def Urn (w : World) (u : Nat) (s : ByteArray) (i : Nat) : Prop := w.heap[u]? = some (.cells #[.string s, .int .i64 (i : Int)] 54 (0, 0))
theorem urn_step {w : World} {u : Nat} {s : ByteArray} {i : Nat} (h : Urn w u s i) (n : Nat) : Urn ((w.drewN n).setCell ⟨u, 1, none⟩ (.int .i64 ((i : Int) + 1))) u s (i + 1) ∧ w.grownBy ((w.drewN n).setCell ⟨u, 1, none⟩ (.int .i64 ((i : Int) + 1))) (some u) := by
  have h0 : (w.drewN n).heap = w.heap := rfl
  have hh : Urn (w.drewN n) u s i := h
  refine ⟨?_, ?_⟩
  · unfold Urn
    rw [heap_setCell_same _ _ _ _ _ _ hh]
    simp
  · obtain ⟨s1, s2, s3, s4⟩ := setCells_same u [.int .i64 ((i : Int) + 1)] 1 (w.drewN n)
    simp only [World.setCells] at s1 s2 s3 s4
    exact ⟨s1, s2, s3, by rw [s4]; exact Nat.le_refl _, fun k _ hk => setCells_far [.int .i64 ((i : Int) + 1)] 1 k (fun e => hk (by rw [e]))⟩
theorem draw_c (u : Nat) (s : ByteArray) (i : Nat) (w : World) (hi : i < 1000000) (hs : s.size < 1000000) (h : Urn w u s i) :
    Calls Tryd.prog 20 #[.pointer (some ⟨u, 0, none⟩)] w fun e w' => e = .returned (.int .i64 (bt s i)) ∧ Urn w' u s (i + 1) ∧ w.grownBy w' (some u) := by
  have q0 := (blk_cell h 0).trans rfl
  have q1 := (blk_cell h 1).trans rfl
  have f0 := frozen_of_row _ _ 1 _ _ h
  have H := Aside0.mk h
  clear h
  go_enter Tryd.func20, Tryd.ntmps20
  by_cases hlt : i < s.size
  · have hlt1 : (i : Int) < (s.size : Int) := by omega
    go_wp2
    go_quiet (fail)
    go_wp2
    go_quiet (fail)
    go_wp2
    go_ret
    rename_i nq1
    have hb := urn_step H.out (nq1 + nq)
    refine ⟨?_, hb.1, hb.2⟩
    have hx : s[i].toNat < 256 := s[i].toNat_lt
    simp only [bt, dif_pos hlt]
    have hy : wrap64 (s[i].toNat : Int) = (s[i].toNat : Int) := by unfold wrap64; omega
    show Ending.returned (.int .i64 (wrap64 (s[i].toNat : Int))) = _
    rw [hy]
  · have hlt1 : ¬ (i : Int) < (s.size : Int) := by omega
    go_wp2
    go_quiet (fail)
    go_wp2
    go_ret
    have hb := urn_step H.out nq
    refine ⟨?_, hb.1, hb.2⟩
    simp only [bt, dif_neg hlt]
    rfl
end Go.Proofs.YtlcfkdglknkbdaaDoor.Lo
