/- lots: LotsBytes. (Partly printed by gen_bytes.py.) -/
import Derived.Test.YtlcfkdglknkbdaaDoorLoQ
import Derived.Laws.IdiomStrings
namespace Go.Proofs.YtlcfkdglknkbdaaDoor.Lo
open Go.RowKit Go.Proofs.YtlcfkdglknkbdaaDoorW.PrintWords Go.Proofs.YtlcfkdglknkbdaaDoorW.PrintLast Go.Proofs.YtlcfkdglknkbdaaDoorW.PrintMore Go.Proofs.YtlcfkdglknkbdaaDoor.X
set_option linter.unusedVariables false
set_option linter.unusedSimpArgs false
attribute [local go_sem high] eqA37 eqA35 eqA24

/-! ### one byte set -/
def bts (s : ByteArray) : List Int := s.data.toList.map fun b => (b.toNat : Int)
theorem bts_len (s : ByteArray) : (bts s).length = s.size := by unfold bts; rw [List.length_map, Array.length_toList]; rfl
theorem bts_b (s : ByteArray) : ∀ y ∈ bts s, 0 ≤ y ∧ y < 256 := by
  intro y hy
  obtain ⟨b, _, rfl⟩ := List.mem_map.1 hy
  have := b.toNat_lt
  omega
def setS (s : ByteArray) (k : Nat) (v : Int) : ByteArray := strOfNums ((bts s).set k v)
theorem setS_size (s : ByteArray) (k : Nat) (v : Int) : (setS s k v).size = s.size := by unfold setS; rw [str_size, List.length_set, bts_len]
theorem setS_bt (s : ByteArray) (k : Nat) (v : Int) (hv : 0 ≤ v ∧ v < 256) (i : Nat) (hk : k < s.size) : bt (setS s k v) i = if i = k then v else bt s i := by
  unfold setS
  rw [bt_str _ (fun y hy => by
    rcases List.mem_or_eq_of_mem_set hy with h | h
    · exact bts_b s y h
    · rw [h]; exact hv)]
  rw [bt_data s i, List.getD_eq_getElem?_getD, List.getElem?_set]
  have hl : k < (bts s).length := by rw [bts_len]; exact hk
  by_cases h : k = i
  · subst h
    rw [if_pos rfl, if_pos hl, if_pos rfl]
    rfl
  · rw [if_neg h, if_neg (fun e => h e.symm), ← List.getD_eq_getElem?_getD]
    rfl
/-- A slice of bytes in a block that may hold more. -/
theorem C_u8 {w : World} {g : Nat} {xs : List Int} (h : ∀ j, j < xs.length → w.cell? ⟨g, j, none⟩ = some (.int .u8 (xs.getD j 0))) (hm : xs.length ≤ 9223372036854775807) : Kd.C (Kd.int .u8) w (some ⟨g, 0, none⟩) xs.length xs := by
  refine ⟨rfl, hm, fun _ => ⟨_, rfl, fun j p hp => ⟨[.int .u8 p], rfl, rfl, fun i u hu => ?_⟩⟩⟩
  have hj : j < xs.length := (List.getElem?_eq_some_iff.1 hp).1
  have hi : i = 0 := by
    rcases Nat.eq_zero_or_pos i with h | h
    · exact h
    · rw [List.getElem?_eq_none (by simp; omega)] at hu; cases hu
  subst hi
  have hu' : Value.int .u8 p = u := by simpa using hu
  subst hu'
  have ha : (⟨g, 0, none⟩ : Addr).add (j * (Kd.int .u8).sz + 0) = ⟨g, j, none⟩ := by
    show (⟨g, 0, none⟩ : Addr).add (j * 1 + 0) = _
    unfold Addr.add
    split
    · rename_i h0
      have : j = 0 := by omega
      subst this
      rfl
    · simp
  rw [ha, h j hj]
  simp [List.getD, hp]
theorem conv_bytes (s : ByteArray) (W : World) : ∃ cap wb arr N, (convert 9 40 (.string s)).run Tryd.prog W = .ok (.slice (some ⟨W.heap.size, 0, none⟩) s.size cap) wb ∧ wb.heap[W.heap.size]? = some (.cells arr 5 (N, N + 1)) ∧ s.size ≤ N ∧ s.size ≤ arr.size ∧ (∀ j, j < s.size → arr[j]? = some (.int .u8 (bt s j))) ∧ Below W.heap.size W wb := by
  refine ⟨_, _, bytesRow s (grownCap W s.size 0 5), _, run_bytes_of_string W 9 40 5 s Tryd.underlying9 Tryd.underlying40 Tryd.underlying5, blk_new W.drew _, ?_, ?_, ?_, below_alloc (below_drew (Below.refl _ _)) _⟩
  · have h0 : s.size = s.data.size := rfl
    unfold bytesRow; rw [Array.size_append, Array.size_map]; omega
  · have h0 : s.size = s.data.size := rfl
    unfold bytesRow; rw [Array.size_append, Array.size_map]; omega
  · intro j hj
    have hj' : j < s.data.size := hj
    unfold bytesRow
    rw [Array.getElem?_append_left (by simpa using hj'), Array.getElem?_map, Array.getElem?_eq_getElem hj']
    simp [bt, hj, ByteArray.getElem_eq_getElem_data]
theorem row_set {w : World} {g i : Nat} {cs : Array Value} {t : TypeId} {fr : Nat × Nat} {v : Value} (hg : w.heap[g]? = some (.cells cs t fr)) : (w.setCell ⟨g, i, none⟩ v).heap[g]? = some (.cells (cs.setIfInBounds i v) t fr) := by
  rw [setCell_eq_setRow w g i cs t fr v hg]
  exact setRow_heap w g cs _ t _ hg
/-- A byte of such a slice is set; it is read as a string again. -/
theorem set_bytes {s : ByteArray} {wb : World} {g N : Nat} {arr : Array Value} (hg : wb.heap[g]? = some (.cells arr 5 (N, N + 1))) (hN : s.size ≤ N) (ha : s.size ≤ arr.size) (hc : ∀ j, j < s.size → arr[j]? = some (.int .u8 (bt s j))) (k : Nat) (hk : k < s.size) (v : Int) (hm : s.size ≤ 1000000) (cap : Nat) :
    wb.cell? ⟨g, k, none⟩ = some (.int .u8 (bt s k)) ∧ wb.frozen? ⟨g, k, none⟩ = false ∧ (∀ j, j < s.size → (wb.setCell ⟨g, k, none⟩ (.int .u8 v)).cell? ⟨g, j, none⟩ = some (.int .u8 (if j = k then v else bt s j)))
      ∧ (convert 40 9 (.slice (some ⟨g, 0, none⟩) s.size cap)).run Tryd.prog (wb.setCell ⟨g, k, none⟩ (.int .u8 v)) = .ok (.string (setS s k v)) (wb.setCell ⟨g, k, none⟩ (.int .u8 v)) := by
  have h2 := row_set (i := k) (v := .int .u8 v) hg
  have h3 : ∀ j, j < s.size → (wb.setCell ⟨g, k, none⟩ (.int .u8 v)).cell? ⟨g, j, none⟩ = some (.int .u8 (if j = k then v else bt s j)) := by
    intro j hj
    rw [cell_of_row _ g j _ 5 _ h2, Array.getElem?_setIfInBounds]
    by_cases h : k = j
    · subst h
      rw [if_pos rfl, if_pos (by omega), if_pos rfl]
    · rw [if_neg h, if_neg (fun e => h e.symm)]
      exact hc j hj
  refine ⟨(cell_of_row _ g k _ 5 _ hg).trans (hc k hk), ?_, h3, ?_⟩
  · simp [World.frozen?, hg]
    omega
  · have hl : ((bts s).set k v).length = s.size := by rw [List.length_set, bts_len]
    have hC := C_u8 (w := wb.setCell ⟨g, k, none⟩ (.int .u8 v)) (g := g) (xs := (bts s).set k v) (fun j hj => by
      rw [h3 j (by omega)]
      rw [List.getD_eq_getElem?_getD, List.getElem?_set]
      by_cases h : k = j
      · subst h
        rw [if_pos rfl, if_pos rfl, if_pos (by rw [bts_len]; omega)]
        rfl
      · rw [if_neg (fun e => h e.symm), if_neg h, ← List.getD_eq_getElem?_getD, bt_data]
        rfl) (by omega)
    rw [hl] at hC
    exact Kd.C_string Tryd.underlying40 Tryd.underlying5 Tryd.underlying9 hC
theorem u_rem (a : Int) (n : Nat) (hn : 0 < n) : ∃ k : Nat, (IntKind.u64.wrap a).tmod (n : Int) = (k : Int) ∧ k < n := by
  have h : 0 ≤ IntKind.u64.wrap a := by rw [IntKind.wrap_u64]; exact Int.emod_nonneg _ (by decide)
  have h1 : (IntKind.u64.wrap a).tmod (n : Int) = (IntKind.u64.wrap a) % (n : Int) := Int.tmod_eq_emod_of_nonneg h
  have h2 := Int.emod_nonneg (IntKind.u64.wrap a) (show (n : Int) ≠ 0 by omega)
  have h3 := Int.emod_lt_of_pos (IntKind.u64.wrap a) (show (0 : Int) < (n : Int) by omega)
  exact ⟨((IntKind.u64.wrap a) % (n : Int)).toNat, by rw [h1]; omega, by omega⟩
/-! ### what one byte says -/
theorem bytes_law (s : ByteArray) (k : Nat) (hk : k < s.size) (v : Int) (hv : 0 ≤ v ∧ v < 256) :
    (k ≠ 0 → (dec (setS s k v)).f0.f0 = (dec s).f0.f0) ∧ (k ≠ 1 → (dec (setS s k v)).f0.f1 = (dec s).f0.f1) ∧ (k ≠ 2 → (dec (setS s k v)).f0.f2 = (dec s).f0.f2) ∧ (k ≠ 3 → (dec (setS s k v)).f0.f3 = (dec s).f0.f3) ∧ (k ≠ 4 → (dec (setS s k v)).f0.f4 = (dec s).f0.f4) ∧ (k = 3 → (dec (setS s k v)).f0.f3 = v)
      ∧ (6 + 4 * (dec s).f1.length ≤ k → (dec (setS s k v)).f1.length = (dec s).f1.length ∧ (dec (setS s k v)).f2.length = (dec s).f2.length ∧ ∀ i, i < (dec s).f2.length → i ≠ k - (6 + 4 * (dec s).f1.length) → (dec (setS s k v)).f2.getD i 0 = (dec s).f2.getD i 0) := by
  have hb : ∀ i, i ≠ k → bt (setS s k v) i = bt s i := fun i hi => by rw [setS_bt s k v hv i hk, if_neg hi]
  refine ⟨fun h => ?_, fun h => ?_, fun h => ?_, fun h => ?_, fun h => ?_, fun h => ?_, fun h => ?_⟩
  · show stOf _ = stOf _; unfold stOf; rw [hb 0 (by omega)]
  · show bt _ 1 % 5 + 1 = bt _ 1 % 5 + 1; rw [hb 1 (by omega)]
  · show thOf _ = thOf _; unfold thOf; rw [hb 2 (by omega)]
  · show bt _ 3 = bt _ 3; rw [hb 3 (by omega)]
  · show bt _ 4 % 64 + 1 = bt _ 4 % 64 + 1; rw [hb 4 (by omega)]
  · show bt _ 3 = v; rw [setS_bt s k v hv 3 hk, if_pos h.symm]
  · rw [dec_n5 s] at h ⊢
    have hc : cntOf (setS s k v) = cntOf s := by unfold cntOf; rw [hb 5 (by omega)]
    have ht : thOf (setS s k v) = thOf s := by unfold thOf; rw [hb 2 (by omega)]
    have hn : npick (setS s k v) = npick s := by unfold npick; rw [hc, setS_size]
    refine ⟨by rw [dec_n5, hc], by rw [dec_n6, dec_n6, hn], fun i hi hne => ?_⟩
    rw [dec_n6] at hi
    show (picks _ (6 + 4 * cntOf _) (npick _)).getD i 0 = (picks _ (6 + 4 * cntOf _) (npick _)).getD i 0
    rw [hc, hn]
    unfold picks
    rw [List.getD_eq_getElem?_getD, List.getD_eq_getElem?_getD, List.getElem?_map, List.getElem?_map, List.getElem?_range hi]
    show bt _ _ % thOf _ = bt _ _ % thOf _
    rw [ht, hb _ (by omega)]
/-- What stays while the two are compared. -/
def BW (w wr : World) (xb yb : Nat) (X Y : Array Value) (A6 : Option Addr) (n6 : Nat) (xp : List Int) (B6 : Option Addr) (m6 : Nat) (yp : List Int) : Prop :=
  wr.heap[xb]? = some (.cells X 28 (0, 0)) ∧ wr.heap[yb]? = some (.cells Y 28 (0, 0)) ∧ (Kd.int .i64).C wr A6 n6 xp ∧ (Kd.int .i64).C wr B6 m6 yp ∧ Below w.heap.size w wr
theorem BW_below {w wr w1 : World} {xb yb : Nat} {X Y : Array Value} {A6 : Option Addr} {n6 : Nat} {xp : List Int} {B6 : Option Addr} {m6 : Nat} {yp : List Int} (h : BW w wr xb yb X Y A6 n6 xp B6 m6 yp) (hb : Below wr.heap.size wr w1) : BW w w1 xb yb X Y A6 n6 xp B6 m6 yp := by
  obtain ⟨h1, h2, h4, h6, h7⟩ := h
  exact ⟨blk_below hb h1, blk_below hb h2, Kd.C_below h4 hb, Kd.C_below h6 hb, below_step h7 hb⟩
set_option maxHeartbeats 4000000 in
set_option maxRecDepth 100000 in
theorem bytes_walk (s : ByteArray) (a1 a2 : Int) (aA : Addr) (W : World) (hA : W.cell? gArg = some (Sent aA)) :
    Calls Tryd.prog 4 #[.string s, .int .i64 a1, .int .i64 a2] W fun e w' => e = .returned (.bool true) ∧ Below W.heap.size W w' := by
  have h1 := Tryd.underlying24
  have h2 := Tryd.underlying28
  obtain ⟨w, hw⟩ : ∃ w, w = W := ⟨_, rfl⟩
  rw [← hw] at hA ⊢
  clear hw
  have HA := Aside0.mk hA
  clear hA
  go_enter Tryd.func4, Tryd.ntmps4
  go_wp2_with fail
  refine (awake_c aA w HA.out).mono ?_
  rintro e w1 ⟨rfl, hb⟩
  have HB := Aside0.mk hb
  clear hb
  by_cases hs : s.size < 7
  · have z1 : (s.size : Int) < 7 := by omega
    go_wp2
    go_ret
    exact ⟨rfl, HB.out⟩
  · have z1 : ¬ (s.size : Int) < 7 := by omega
    by_cases hm : s.size ≤ 4096
    · have z2 : ¬ (s.size : Int) > 4096 := by omega
      go_wp2_with fail
      refine (dec_s s (by omega) _).mono ?_
      rintro e w2 ⟨v, rfl, hv, hb⟩
      obtain ⟨x, hx⟩ : ∃ x, x = dec s := ⟨_, rfl⟩
      rw [← hx] at hv
      obtain ⟨A5, c5, A6, c6, rfl, l5, C5, l6, C6⟩ := hv
      have hb1 := below_alloc (Below.refl w2.heap.size w2) (.cells (scells x A5 c5 A6 c6) 28)
      have hX := blk_new w2 (.cells (scells x A5 c5 A6 c6) 28)
      have hsz : (w2.alloc (.cells (scells x A5 c5 A6 c6) 28)).heap.size = w2.heap.size + 1 := by unfold World.alloc; exact Array.size_push _
      obtain ⟨cap, wb, arr, N, hconv, hg, hN, har, hcs, hb2⟩ := conv_bytes s (w2.alloc (.cells (scells x A5 c5 A6 c6) 28))
      rw [hsz] at hconv hg
      obtain ⟨k, hkk, hk⟩ := u_rem a1 s.size (by omega)
      obtain ⟨vb, hvb⟩ : ∃ z, IntKind.u8.wrap a2 = z := ⟨_, rfl⟩
      have hv0 : 0 ≤ vb ∧ vb < 256 := by rw [← hvb, IntKind.wrap_u8]; omega
      obtain ⟨q0, q1, q2, q3⟩ := set_bytes hg hN har hcs k hk vb (by omega) cap
      have HX := Aside0.mk hx
      have HG := Aside0.mk hg
      have HCS := Aside0.mk hcs
      have HB2 := Aside0.mk hb2
      have Q2 := Aside0.mk q2
      clear hx hg hcs hb2 q2
      go_wp2_with fail
      refine (dec_s (setS s k vb) (by rw [setS_size]; omega) _).mono ?_
      rintro e w3 ⟨v, rfl, hv, hb⟩
      have law := bytes_law s k hk vb hv0
      obtain ⟨y, hy⟩ : ∃ y, y = dec (setS s k vb) := ⟨_, rfl⟩
      have hl := (good_conf (dec_good s)).2
      rw [← hy, ← HX.out] at law
      rw [← hy] at hv
      rw [← HX.out] at hl
      obtain ⟨B5, d5, B6, d6, rfl, m5, D5, m6, D6⟩ := hv
      have hbs := below_set HB2.out (g := w2.heap.size + 1) (j := k) (v := .int .u8 vb) (Nat.le_of_eq hsz)
      have hBw := below_step (below_step (below_step (below_step HB.out ‹Below w1.heap.size w1 w2›) hb1) hbs) hb
      have hXw := blk_below hb (blk_below hbs hX)
      have hC6 := Kd.C_below (Kd.C_below (Kd.C_below C6 hb1) hbs) hb
      have hcell : ∀ j, j < s.size → w3.cell? ⟨w2.heap.size + 1, j, none⟩ = some (.int .u8 (if j = k then vb else bt s j)) := fun j hj => pw_cell_below hb (Q2.out j hj)
      clear hy HX hsz hbs hb hX C6 C5 l5 l6 m5 m6 D5 q0 q1 q3 hconv HG HCS Q2 HB2 hb1 HB hkk
      obtain ⟨⟨p0, p1, p2, p3, p4⟩, xo, xp⟩ := x
      obtain ⟨⟨q0, q1, q2, q3, q4⟩, yo, yp⟩ := y
      simp only [scells] at law hXw hC6 D6 hl ⊢
      obtain ⟨n5, hn5⟩ : ∃ n, n = xo.length := ⟨_, rfl⟩
      obtain ⟨n6, hn6⟩ : ∃ n, n = xp.length := ⟨_, rfl⟩
      obtain ⟨m5, hm5⟩ : ∃ n, n = yo.length := ⟨_, rfl⟩
      obtain ⟨m6, hm6⟩ : ∃ n, n = yp.length := ⟨_, rfl⟩
      rw [← hn5, ← hn6, ← hm5, ← hm6] at law
      rw [← hn5, ← hn6] at hXw hl
      rw [← hn6] at hC6
      rw [← hm6] at D6
      rw [← hm5, ← hm6]
      have hW1 : BW w (w3.alloc (.cells #[.int .i64 q0, .int .i64 q1, .int .i64 q2, .int .i64 q3, .int .i64 q4, .slice B5 m5 d5, .slice B6 m6 d6] 28)) w2.heap.size w3.heap.size #[.int .i64 p0, .int .i64 p1, .int .i64 p2, .int .i64 p3, .int .i64 p4, .slice A5 n5 c5, .slice A6 n6 c6] #[.int .i64 q0, .int .i64 q1, .int .i64 q2, .int .i64 q3, .int .i64 q4, .slice B5 m5 d5, .slice B6 m6 d6] A6 n6 xp B6 m6 yp := ⟨blk_below (below_alloc (Below.refl _ _) _) hXw, blk_new _ _, Kd.C_alloc hC6 _, Kd.C_alloc D6 _, below_step hBw (below_alloc (Below.refl _ _) _)⟩
      have hW2 : BW w ((w3.alloc (.cells #[.int .i64 q0, .int .i64 q1, .int .i64 q2, .int .i64 q3, .int .i64 q4, .slice B5 m5 d5, .slice B6 m6 d6] 28)).alloc (.cells #[.int .i64 p0, .int .i64 p1, .int .i64 p2, .int .i64 p3, .int .i64 p4] 24)) w2.heap.size w3.heap.size #[.int .i64 p0, .int .i64 p1, .int .i64 p2, .int .i64 p3, .int .i64 p4, .slice A5 n5 c5, .slice A6 n6 c6] #[.int .i64 q0, .int .i64 q1, .int .i64 q2, .int .i64 q3, .int .i64 q4, .slice B5 m5 d5, .slice B6 m6 d6] A6 n6 xp B6 m6 yp := BW_below hW1 (below_alloc (Below.refl _ _) _)
      have hW3 : BW w (((w3.alloc (.cells #[.int .i64 q0, .int .i64 q1, .int .i64 q2, .int .i64 q3, .int .i64 q4, .slice B5 m5 d5, .slice B6 m6 d6] 28)).alloc (.cells #[.int .i64 p0, .int .i64 p1, .int .i64 p2, .int .i64 p3, .int .i64 p4] 24)).alloc (.cells #[.int .i64 q0, .int .i64 q1, .int .i64 q2, .int .i64 q3, .int .i64 q4] 24)) w2.heap.size w3.heap.size #[.int .i64 p0, .int .i64 p1, .int .i64 p2, .int .i64 p3, .int .i64 p4, .slice A5 n5 c5, .slice A6 n6 c6] #[.int .i64 q0, .int .i64 q1, .int .i64 q2, .int .i64 q3, .int .i64 q4, .slice B5 m5 d5, .slice B6 m6 d6] A6 n6 xp B6 m6 yp := BW_below hW2 (below_alloc (Below.refl _ _) _)
      have x0 := (blk_cell hW1.1 0).trans rfl
      have x1 := (blk_cell hW1.1 1).trans rfl
      have x2 := (blk_cell hW1.1 2).trans rfl
      have x3 := (blk_cell hW1.1 3).trans rfl
      have x4 := (blk_cell hW1.1 4).trans rfl
      have y0 := (blk_cell hW2.2.1 0).trans rfl
      have y1 := (blk_cell hW2.2.1 1).trans rfl
      have y2 := (blk_cell hW2.2.1 2).trans rfl
      have y3 := (blk_cell hW2.2.1 3).trans rfl
      have y4 := (blk_cell hW2.2.1 4).trans rfl
      have x5 := (blk_cell hW3.1 5).trans rfl
      have x6 := (blk_cell hW3.1 6).trans rfl
      have y5 := (blk_cell hW3.2.1 5).trans rfl
      have y6 := (blk_cell hW3.2.1 6).trans rfl
      have hcz : ∀ j, j < s.size → (((w3.alloc (.cells #[.int .i64 q0, .int .i64 q1, .int .i64 q2, .int .i64 q3, .int .i64 q4, .slice B5 m5 d5, .slice B6 m6 d6] 28)).alloc (.cells #[.int .i64 p0, .int .i64 p1, .int .i64 p2, .int .i64 p3, .int .i64 p4] 24)).alloc (.cells #[.int .i64 q0, .int .i64 q1, .int .i64 q2, .int .i64 q3, .int .i64 q4] 24)).cell? ⟨w2.heap.size + 1, j, none⟩ = some (.int .u8 (if j = k then vb else bt s j)) := fun j hj => pw_cell_below (below_alloc (below_alloc (below_alloc (Below.refl _ _) _) _) _) (hcell j hj)
      have HW := Aside0.mk hW3
      have hn5l : n5 ≤ 64 := hl.1
      have hn6l : n6 ≤ 4096 := hl.2.1
      obtain ⟨f0, f1, f2, f3, f4, f3v, f5⟩ := law
      have HN5 := Aside0.mk hn5
      have HN6 := Aside0.mk hn6
      have HM6 := Aside0.mk hm6
      have HBW := Aside0.mk hBw
      clear hW1 hW2 hW3 hXw hC6 D6 hcell hl hn5 hn6 hm5 hm6 hBw hN har z1 z2
      by_cases k0 : k = 0
      · subst k0
        obtain rfl := f1 (by decide)
        obtain rfl := f2 (by decide)
        obtain rfl := f3 (by decide)
        obtain rfl := f4 (by decide)
        clear f0 f1 f2 f3 f4 f3v f5 hcz
        go_wp2
        go_quiet (fail)
        go_wp2
        go_ret
        exact ⟨rfl, pw_below_drewN HW.out.2.2.2.2 _⟩
      by_cases k1 : k = 1
      · subst k1
        obtain rfl := f0 (by decide)
        obtain rfl := f2 (by decide)
        obtain rfl := f3 (by decide)
        obtain rfl := f4 (by decide)
        clear f0 f1 f2 f3 f4 f3v f5 hcz
        go_wp2
        go_quiet (fail)
        go_wp2
        go_ret
        exact ⟨rfl, pw_below_drewN HW.out.2.2.2.2 _⟩
      by_cases k2 : k = 2
      · subst k2
        obtain rfl := f0 (by decide)
        obtain rfl := f1 (by decide)
        obtain rfl := f3 (by decide)
        obtain rfl := f4 (by decide)
        clear f0 f1 f2 f3 f4 f3v f5 hcz
        go_wp2
        go_quiet (fail)
        go_wp2
        go_ret
        exact ⟨rfl, pw_below_drewN HW.out.2.2.2.2 _⟩
      by_cases k3 : k = 3
      · subst k3
        obtain rfl := f0 (by decide)
        obtain rfl := f1 (by decide)
        obtain rfl := f2 (by decide)
        obtain rfl := f4 (by decide)
        obtain rfl := f3v rfl
        have hc3 := hcz 3 hk
        rw [if_pos rfl] at hc3
        clear f0 f1 f2 f3 f4 f3v f5 hcz
        go_wp2
        go_quiet (fail)
        go_wp2
        go_ret
        exact ⟨rfl, pw_below_drewN HW.out.2.2.2.2 _⟩
      by_cases k4 : k = 4
      · subst k4
        obtain rfl := f0 (by decide)
        obtain rfl := f1 (by decide)
        obtain rfl := f2 (by decide)
        obtain rfl := f3 (by decide)
        clear f0 f1 f2 f3 f4 f3v f5 hcz
        go_wp2
        go_quiet (fail)
        go_wp2
        go_ret
        exact ⟨rfl, pw_below_drewN HW.out.2.2.2.2 _⟩
      obtain rfl := f0 k0
      obtain rfl := f1 k1
      obtain rfl := f2 k2
      obtain rfl := f3 k3
      obtain rfl := f4 k4
      clear f0 f1 f2 f3 f4 f3v hcz
      go_wp2
      go_quiet (fail)
      have HWn := Aside0.mk (BW_below HW.out (pw_below_drewN (Below.refl _ _) nq))
      have x5 := (blk_cell HWn.out.1 5).trans rfl
      have x6 := (blk_cell HWn.out.1 6).trans rfl
      have y5 := (blk_cell HWn.out.2.1 5).trans rfl
      have y6 := (blk_cell HWn.out.2.1 6).trans rfl
      by_cases hkf : k < 6 + 4 * n5
      · have hkl : (k : Int) < 6 + 4 * (n5 : Int) := by omega
        go_wp2
        go_ret
        exact ⟨rfl, HWn.out.2.2.2.2⟩
      · have hkl : ¬ (k : Int) < 6 + 4 * (n5 : Int) := by omega
        obtain ⟨rfl, rfl, f5⟩ := f5 (by omega)
        have HF5 := Aside0.mk f5
        clear f5
        go_wp2
        clear x0 x1 x2 x3 x4 y0 y1 y2 y3 y4 x5 x6 y5 y6
        go_loopw [14] (fun i wr => ∃ j : Nat, j ≤ m6 ∧ i = .int .i64 j ∧ BW w wr w2.heap.size w3.heap.size #[.int .i64 q0, .int .i64 q1, .int .i64 q2, .int .i64 q3, .int .i64 q4, .slice A5 m5 c5, .slice A6 m6 c6] #[.int .i64 q0, .int .i64 q1, .int .i64 q2, .int .i64 q3, .int .i64 q4, .slice B5 m5 d5, .slice B6 m6 d6] A6 m6 xp B6 m6 yp) (fun i _ => m6 - (intOf i).toNat)
        case atStart => exact ⟨0, Nat.zero_le _, rfl, HWn.out⟩
        case round =>
          clear HWn HW
          obtain ⟨j, hj, rfl, hW⟩ := hrel
          have x6 := (blk_cell hW.1 6).trans rfl
          have y6 := (blk_cell hW.2.1 6).trans rfl
          have HW := Aside0.mk hW
          clear hW
          by_cases hlt : j < m6
          · have hkn : (j : Int) < (m6 : Int) := by omega
            have hkk : (0 : Int) ≤ (j : Int) := by omega
            by_cases hd : (j : Int) = (k : Int) - (6 + 4 * (m5 : Int))
            · go_wp2
              go_quiet (fail)
              go_wp2
              go_roundw
              case rel => exact ⟨j + 1, by omega, by go_num, BW_below HW.out (pw_below_drewN (Below.refl _ _) _)⟩
              case measure => simp [intOf]; omega
            · have hdd : ((j : Int) != (k : Int) - (6 + 4 * (m5 : Int))) = true := by simp [hd]
              obtain ⟨ad, eA, q0⟩ := Kd.at_int HW.out.2.2.1 (j : Int) (by omega) (by omega)
              obtain ⟨ad, eB, r0⟩ := Kd.at_int HW.out.2.2.2.1 (j : Int) (by omega) (by omega)
              simp only [Int.toNat_natCast] at q0 r0
              cases eA
              cases eB
              rw [rd_getD] at q0 r0
              rw [HF5.out j (by omega) (by omega)] at r0
              obtain ⟨z, hz⟩ : ∃ z, z = xp.getD j 0 := ⟨_, rfl⟩
              rw [← hz] at q0 r0
              clear hz
              go_wp2
              go_quiet (fail)
              go_wp2
              go_roundw
              case rel => exact ⟨j + 1, by omega, by go_num, BW_below HW.out (pw_below_drewN (Below.refl _ _) _)⟩
              case measure => simp [intOf]; omega
          · go_wp2
            go_ret
            exact ⟨rfl, HW.out.2.2.2.2⟩
    · have z2 : (s.size : Int) > 4096 := by omega
      go_wp2
      go_ret
      exact ⟨rfl, HB.out⟩
end Go.Proofs.YtlcfkdglknkbdaaDoor.Lo
