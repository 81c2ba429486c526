/- lots: bytes and strings (no program in sight). -/
import Derived.Test.YtlcfkdglknkbdaaDoorLoO
namespace Go.Proofs.YtlcfkdglknkbdaaDoor.Lo
open Go.RowKit Go.Proofs.YtlcfkdglknkbdaaDoorW.PrintWords Go.Proofs.YtlcfkdglknkbdaaDoorW.PrintLast Go.Proofs.YtlcfkdglknkbdaaDoorW.PrintMore Go.Proofs.YtlcfkdglknkbdaaDoor.X
set_option linter.unusedVariables false
set_option linter.unusedSimpArgs false

theorem str_size (L : List Int) : (strOfNums L).size = L.length := by simp [strOfNums, ByteArray.size]
theorem bt_data (s : ByteArray) (i : Nat) : bt s i = ((s.data.toList.map fun b => (b.toNat : Int)).getD i 0) := by
  unfold bt
  split
  · rename_i h
    have h' : i < s.data.toList.length := by rw [Array.length_toList]; exact h
    rw [List.getD_eq_getElem?_getD, List.getElem?_map, List.getElem?_eq_getElem h']
    simp [ByteArray.getElem_eq_getElem_data]
  · rename_i h
    have h' : ¬ i < s.data.toList.length := by rw [Array.length_toList]; exact h
    rw [List.getD_eq_getElem?_getD, List.getElem?_map, List.getElem?_eq_none (by omega)]
    rfl
theorem bt_str (L : List Int) (h : ∀ y ∈ L, 0 ≤ y ∧ y < 256) (i : Nat) : bt (strOfNums L) i = L.getD i 0 := by
  rw [bt_data]
  have : ((strOfNums L).data.toList.map fun b => (b.toNat : Int)) = L := by
    unfold strOfNums
    simp only [List.toList_toArray, List.map_map]
    conv => rhs; rw [← List.map_id L]
    refine List.map_congr_left (fun y hy => ?_)
    have := h y hy
    simp
    omega
  rw [this]
theorem bt_left (a b : ByteArray) (i : Nat) (h : i < a.size) : bt (a ++ b) i = bt a i := by
  rw [bt_data, bt_data]
  simp only [ByteArray.data_append, Array.toList_append, List.map_append]
  rw [List.getD_eq_getElem?_getD, List.getElem?_append_left (by rw [List.length_map, Array.length_toList]; exact h), ← List.getD_eq_getElem?_getD]
theorem tkL_b {x : S28} (hg : goodB x = true) {t : S37} (ht : t ∈ x.f1) (hb : argB x.f0.f0 t.f1 = true) : ∀ y ∈ tkL x.f0.f0 t, 0 ≤ y ∧ y < 256 := by
  obtain ⟨hok, _, _, hT, _⟩ := good_conf hg
  have hs := (okConf_b hok).1
  have h2 := (okConf_b hok).2.2.1
  have h1 := List.all_eq_true.1 hT t ht
  have hf := (Bool.and_eq_true_iff.1 h1).2
  have h0 := of_decide_eq_true (Bool.and_eq_true_iff.1 h1).1
  have hy := byt hs hf
  have hx := argB_b hb hy.2.1 (fits_val hf).1
  intro y hm
  simp only [tkL, List.mem_cons, List.not_mem_nil, or_false] at hm
  rcases hm with rfl | rfl | rfl | rfl
  · show 0 ≤ t.f0 ∧ t.f0 < 256
    omega
  · exact hy.1
  · exact hx.1
  · exact hx.2
theorem encL_b {x : S28} (he : encB x = true) : ∀ y ∈ encL x, 0 ≤ y ∧ y < 256 := by
  obtain ⟨hg, hsl, hab⟩ := enc_parts he
  obtain ⟨hok, n5, n6, hT, hP⟩ := good_conf hg
  obtain ⟨⟨s1, s2⟩, ⟨e1, e2⟩, ⟨t1, t2⟩, ⟨o1, o2⟩, ⟨r1, r2⟩⟩ := okConf_b hok
  intro y hy
  unfold encL enL at hy
  rw [List.mem_append, List.mem_append] at hy
  rcases hy with (hy | hy) | hy
  · simp only [hdL, List.mem_cons, List.not_mem_nil, or_false] at hy
    rcases hy with rfl | rfl | rfl | rfl | rfl | rfl <;> simp only [b8] <;> omega
  · obtain ⟨t, ht, hyt⟩ := List.mem_flatMap.1 hy
    have ht' := List.mem_of_mem_take ht
    exact tkL_b hg ht' (hab t ht') y hyt
  · obtain ⟨n, hn, rfl⟩ := List.mem_map.1 hy
    have hp := of_decide_eq_true (List.all_eq_true.1 hP n (List.mem_of_mem_take hn))
    show 0 ≤ n ∧ n < 256
    omega
theorem encL_len (x : S28) : (encL x).length = 6 + 4 * x.f1.length + x.f2.length := enL_len x _ _ (Nat.le_refl _) (Nat.le_refl _)
def encS (x : S28) : ByteArray := strOfNums (encL x)
theorem encS_size (x : S28) : (encS x).size = 6 + 4 * x.f1.length + x.f2.length := by unfold encS; rw [str_size, encL_len]
/-- A script's bytes, whatever stands behind them. -/
theorem dec_more {x : S28} (he : encB x = true) (more : ByteArray) :
    cfgOf (encS x ++ more) = x.f0 ∧ cntOf (encS x ++ more) = x.f1.length ∧ tasks (encS x ++ more) x.f1.length = x.f1 ∧ ∀ i, i < x.f2.length → bt (encS x ++ more) (6 + 4 * x.f1.length + i) % thOf (encS x ++ more) = x.f2.getD i 0 :=
  dec_of _ x he (fun i hi => by rw [bt_left _ _ _ (by rw [encS_size]; exact hi)]; exact bt_str _ (encL_b he) i)
theorem npick_more {x : S28} (he : encB x = true) (more : ByteArray) : npick (encS x ++ more) = min (x.f2.length + more.size) 4096 := by
  unfold npick
  rw [(dec_more he more).2.1, ByteArray.size_append, encS_size]
  congr 1
  omega
theorem dec_back {x : S28} (he : encB x = true) : dec (encS x) = x := by
  have h : encS x = encS x ++ ByteArray.empty := by simp
  have h6 := (good_conf (enc_parts he).1).2.2.1
  obtain ⟨h0, h1, h2, h3⟩ := dec_more he ByteArray.empty
  have h4 := npick_more he ByteArray.empty
  rw [← h] at h0 h1 h2 h3 h4
  have h5 : npick (encS x) = x.f2.length := by rw [h4]; simp; omega
  obtain ⟨a, b, c⟩ := x
  unfold dec
  rw [h0, h1, h5]
  congr 1
  refine List.ext_getElem? (fun k => ?_)
  unfold picks
  rw [List.getElem?_map]
  by_cases hk : k < c.length
  · rw [List.getElem?_range hk, List.getElem?_eq_getElem hk]
    have := h3 k hk
    simp only [Option.map_some]
    simp only [] at this
    rw [this]
    simp [List.getD, hk]
  · rw [List.getElem?_eq_none (by simpa using hk), List.getElem?_eq_none (by omega)]
    rfl
/-- What was decoded has bytes. -/
theorem enc_dec (s : ByteArray) : encB (dec s) = true := by
  unfold encB
  rw [dec_good]
  simp only [Bool.true_and, Bool.and_eq_true, decide_eq_true_eq, List.all_eq_true]
  refine ⟨bt_lt s 3, fun t ht => ?_⟩
  have ht' : t ∈ tasks s (cntOf s) := ht
  unfold tasks at ht'
  obtain ⟨k, _, rfl⟩ := List.mem_map.1 ht'
  have hst : (dec s).f0.f0 = stOf s := rfl
  rw [hst]
  unfold taskAt opAt
  have hx := bt_nonneg s (6 + 4 * k + 1 + 1)
  have hx2 := bt_lt s (6 + 4 * k + 1 + 1)
  have hy := bt_nonneg s (6 + 4 * k + 1 + 2)
  have hy2 := bt_lt s (6 + 4 * k + 1 + 2)
  have hk := kind_cases (stOf s) (bt s (6 + 4 * k + 1)) (bt_nonneg s _) (st_rng s)
  generalize bt s (6 + 4 * k + 1 + 1) = x at *
  generalize bt s (6 + 4 * k + 1 + 2) = y at *
  generalize kindOf (stOf s) (bt s (6 + 4 * k + 1)) = kd at *
  generalize stOf s = st at *
  simp only []
  refine decide_eq_true ?_
  rcases hk with ⟨rfl, rfl | rfl | rfl⟩ | ⟨rfl, rfl | rfl⟩ | ⟨rfl | rfl | rfl, rfl | rfl | rfl⟩ <;> simp [argX, argY, mkOp] <;> omega
end Go.Proofs.YtlcfkdglknkbdaaDoor.Lo
