/- lots' Same and Good: what they answer. -/
import Derived.Test.YtlcfkdglknkbdaaDoorLoF
namespace Go.Proofs.YtlcfkdglknkbdaaDoor.Lo
open Go.RowKit Go.Proofs.YtlcfkdglknkbdaaDoorW.PrintWords Go.Proofs.YtlcfkdglknkbdaaDoorW.PrintLast Go.Proofs.YtlcfkdglknkbdaaDoorW.PrintMore Go.Proofs.YtlcfkdglknkbdaaDoor.X
set_option linter.unusedVariables false
set_option linter.unusedSimpArgs false
attribute [local go_sem high] eqA37 eqA35 eqA24

/-- A script as a value. -/
def SV (w : World) (x : S28) (v : Value) : Prop := ∃ A5 c5 A6 c6, v = .agg #[.int .i64 x.f0.f0, .int .i64 x.f0.f1, .int .i64 x.f0.f2, .int .i64 x.f0.f3, .int .i64 x.f0.f4, .slice A5 x.f1.length c5, .slice A6 x.f2.length c6] ∧ x.f1.length ≤ c5 ∧ k37.C w A5 x.f1.length x.f1 ∧ x.f2.length ≤ c6 ∧ (Kd.int .i64).C w A6 x.f2.length x.f2
theorem SV_of_K {w : World} {x : S28} {cs : List Value} (h : k28.K w x cs) : SV w x (.agg cs.toArray) := by
  obtain ⟨A5, c5, A6, c6, rfl, l5, C5, l6, C6⟩ := k28_open h
  exact ⟨A5, c5, A6, c6, rfl, l5, C5, l6, C6⟩
theorem SV_below {w w1 : World} {x : S28} {v : Value} (h : SV w x v) (hb : Below w.heap.size w w1) : SV w1 x v := by
  obtain ⟨A5, c5, A6, c6, e, l5, C5, l6, C6⟩ := h
  exact ⟨A5, c5, A6, c6, e, l5, Kd.C_below C5 hb, l6, Kd.C_below C6 hb⟩
/-- The same. -/
def sameB (x y : S28) : Bool := eqB24 x.f0 y.f0 && (decide (x.f1 = y.f1) && decide (x.f2 = y.f2))
theorem sameB_iff (x y : S28) : sameB x y = true ↔ x = y := by
  obtain ⟨a0, a1, a2⟩ := x
  obtain ⟨b0, b1, b2⟩ := y
  simp [sameB, eqB24_iff]
theorem sameB_self (x : S28) : sameB x x = true := (sameB_iff x x).2 rfl
abbrev scells (x : S28) (A5 : Option Addr) (c5 : Nat) (A6 : Option Addr) (c6 : Nat) : Array Value := #[.int .i64 x.f0.f0, .int .i64 x.f0.f1, .int .i64 x.f0.f2, .int .i64 x.f0.f3, .int .i64 x.f0.f4, .slice A5 x.f1.length c5, .slice A6 x.f2.length c6]
set_option maxHeartbeats 1000000 in
set_option maxRecDepth 100000 in
theorem same_c {u v : Value} {x y : S28} {w : World} (hu : SV w x u) (hv : SV w y v) :
    Calls Tryd.prog 12 #[u, v] w fun e w' => e = .returned (.bool (sameB x y)) ∧ Below w.heap.size w w' := by
  obtain ⟨A5, c5, A6, c6, rfl, l5, p5, l6, p6⟩ := hu
  obtain ⟨B5, d5, B6, d6, rfl, m5, q5, m6, q6⟩ := hv
  have h1 := Tryd.underlying24
  have h2 := Tryd.underlying28
  have HX := Aside0.mk (blk_below (below_alloc (Below.refl _ _) (.cells (scells y B5 d5 B6 d6) 28)) (blk_new w (.cells (scells x A5 c5 A6 c6) 28)))
  have hY := blk_new (w.alloc (.cells (scells x A5 c5 A6 c6) 28)) (.cells (scells y B5 d5 B6 d6) 28)
  have hsz : (w.alloc (.cells (scells x A5 c5 A6 c6) 28)).heap.size = w.heap.size + 1 := by unfold World.alloc; exact Array.size_push _
  rw [hsz] at hY
  clear hsz
  have HY := Aside0.mk hY
  clear hY
  have HB0 := Aside0.mk (below_alloc (below_alloc (Below.refl w.heap.size w) (.cells (scells x A5 c5 A6 c6) 28)) (.cells (scells y B5 d5 B6 d6) 28))
  replace p5 := Kd.C_alloc (Kd.C_alloc p5 (.cells (scells x A5 c5 A6 c6) 28)) (.cells (scells y B5 d5 B6 d6) 28)
  replace p6 := Kd.C_alloc (Kd.C_alloc p6 (.cells (scells x A5 c5 A6 c6) 28)) (.cells (scells y B5 d5 B6 d6) 28)
  replace q5 := Kd.C_alloc (Kd.C_alloc q5 (.cells (scells x A5 c5 A6 c6) 28)) (.cells (scells y B5 d5 B6 d6) 28)
  replace q6 := Kd.C_alloc (Kd.C_alloc q6 (.cells (scells x A5 c5 A6 c6) 28)) (.cells (scells y B5 d5 B6 d6) 28)
  have P5 := Aside0.mk p5
  clear p5
  have P6 := Aside0.mk p6
  clear p6
  have Q5 := Aside0.mk q5
  clear q5
  have Q6 := Aside0.mk q6
  clear q6
  unfold sameB
  cases hq : eqB24 x.f0 y.f0
  · simp only [eqB24] at hq
    go_enter Tryd.func12, Tryd.ntmps12
    go_wp2
    go_ret
    exact ⟨rfl, HB0.out⟩
  · simp only [eqB24] at hq
    go_enter Tryd.func12, Tryd.ntmps12
    go_wp2_with fail
    refine (equalT_c A5 c5 x.f1 B5 d5 y.f1 _ P5.out Q5.out).mono ?_
    rintro e w1 ⟨rfl, hb⟩
    have hX := blk_below hb HX.out
    have hY := blk_below hb HY.out
    replace P6 := Aside0.mk (Kd.C_below P6.out hb)
    replace Q6 := Aside0.mk (Kd.C_below Q6.out hb)
    replace HB0 := Aside0.mk (below_step HB0.out hb)
    have x6 := (blk_cell hX 6).trans rfl
    have y6 := (blk_cell hY 6).trans rfl
    clear hb HX HY hX hY
    cases hl : decide (x.f1 = y.f1)
    · go_wp2
      go_ret
      exact ⟨ret_bool (by simp [hl]), HB0.out⟩
    · have HL := Aside0.mk hl
      clear hl
      go_wp2_with fail
      refine (equalI_c A6 c6 x.f2 B6 d6 y.f2 _ P6.out Q6.out).mono ?_
      rintro e w2 ⟨rfl, hb⟩
      replace HB0 := Aside0.mk (below_step HB0.out hb)
      clear hb
      go_wp2
      go_ret
      exact ⟨ret_bool (by rw [HL.out]; simp), HB0.out⟩

theorem fnStore (w : World) (f : Nat) (hf : f = w.heap.size) (v : Value) (hv : v.oneCell' = true) : ∃ wF, (store ⟨f, 0, none⟩ v).run Tryd.prog (w.alloc (.cells #[.nilFunc] 63)) = .ok () wF ∧ wF.heap[f]? = some (.cells #[v] 63 (0, 0)) ∧ Below w.heap.size w wF := by
  subst hf
  have h0 := blk_new w (.cells #[.nilFunc] 63)
  have hc := (blk_cell h0 0).trans rfl
  have hz := blk_frozen h0 0
  refine ⟨(w.alloc (.cells #[.nilFunc] 63)).setCell ⟨w.heap.size, 0, none⟩ v, ?_, ?_, ?_⟩
  · rw [run_store Tryd.prog _ _ v .plain hv, hc, hz]
    rfl
  · rw [heap_setCell_same _ _ 0 _ _ v h0]
    rfl
  · exact below_set (below_alloc (Below.refl _ _) _) (Nat.le_refl _)
/-- What stays while a script is looked at. -/
def GW (w wr : World) (x : S28) (A5 : Option Addr) (c5 : Nat) (A6 : Option Addr) (c6 f : Nat) (aA : Addr) : Prop :=
  wr.heap[w.heap.size]? = some (.cells (scells x A5 c5 A6 c6) 28 (0, 0)) ∧ wr.heap[f]? = some (.cells #[.func (.func 26) #[] #[.pointer (some ⟨w.heap.size, 0, none⟩)]] 63 (0, 0)) ∧ k37.C wr A5 x.f1.length x.f1 ∧ (Kd.int .i64).C wr A6 x.f2.length x.f2 ∧ wr.cell? gArg = some (Sent aA) ∧ Below w.heap.size w wr
theorem GW_below {w wr w1 : World} {x : S28} {A5 : Option Addr} {c5 : Nat} {A6 : Option Addr} {c6 f : Nat} {aA : Addr} (h : GW w wr x A5 c5 A6 c6 f aA) (hb : Below wr.heap.size wr w1) : GW w w1 x A5 c5 A6 c6 f aA := by
  obtain ⟨h1, h2, h3, h4, h5, h6⟩ := h
  exact ⟨blk_below hb h1, blk_below hb h2, Kd.C_below h3 hb, Kd.C_below h4 hb, pw_cell_below hb h5, below_step h6 hb⟩
/-- Whether a script can be run. -/
def goodT (x : S28) (t : S37) : Bool := decide (0 ≤ t.f0 ∧ t.f0 < x.f0.f2) && fits x.f0.f0 t.f1
def goodB (x : S28) : Bool := (okConf x.f0 && (decide (x.f1.length ≤ 64) && decide (x.f2.length ≤ 4096))) && (x.f1.all (goodT x) && x.f2.all fun n => decide (0 ≤ n ∧ n < x.f0.f2))
set_option maxHeartbeats 2000000 in
set_option maxRecDepth 100000 in
theorem good_c {u : Value} {x : S28} {w : World} (hu : SV w x u) (aA : Addr) (hA : w.cell? gArg = some (Sent aA)) :
    Calls Tryd.prog 11 #[u] w fun e w' => e = .returned (.bool (goodB x)) ∧ Below w.heap.size w w' := by
  obtain ⟨A5, c5, A6, c6, rfl, l5, p5, l6, p6⟩ := hu
  have h1 := Tryd.underlying24
  have h2 := Tryd.underlying28
  have h3 := Tryd.underlying37
  have h4 := Tryd.underlying35
  have m5 := Kd.C_max p5
  have m6 := Kd.C_max p6
  have hX0 := blk_new w (.cells (scells x A5 c5 A6 c6) 28)
  have hb0 := below_alloc (Below.refl w.heap.size w) (.cells (scells x A5 c5 A6 c6) 28)
  have hsz : (w.alloc (.cells (scells x A5 c5 A6 c6) 28)).heap.size = w.heap.size + 1 := by unfold World.alloc; exact Array.size_push _
  have hst := fnStore (w.alloc (.cells (scells x A5 c5 A6 c6) 28)) (w.heap.size + 1) hsz.symm (.func (.func 26) #[] #[.pointer (some ⟨w.heap.size, 0, none⟩)]) rfl
  obtain ⟨wF, hst, hF, hb1⟩ := hst
  have hX := blk_below hb1 hX0
  have hB := below_step hb0 hb1
  replace p5 := Kd.C_below p5 hB
  replace p6 := Kd.C_below p6 hB
  replace hA := pw_cell_below hB hA
  obtain ⟨f, hf⟩ : ∃ f, f = w.heap.size + 1 := ⟨_, rfl⟩
  have hc0 := (blk_cell hX 0).trans rfl
  have hc1 := (blk_cell hX 1).trans rfl
  have hc2 := (blk_cell hX 2).trans rfl
  have hc3 := (blk_cell hX 3).trans rfl
  have hc4 := (blk_cell hX 4).trans rfl
  have hc5 := (blk_cell hX 5).trans rfl
  have hc6 := (blk_cell hX 6).trans rfl
  have hG : GW w wF x A5 c5 A6 c6 f aA := ⟨hX, by rw [hf]; exact hF, p5, p6, hA, hB⟩
  rw [← hf] at hst
  have HG := Aside0.mk hG
  clear hX hF p5 p6 hA hB hX0 hb0 hb1 hsz hG
  have HF := Aside0.mk hf
  clear hf
  go_enter Tryd.func11, Tryd.ntmps11
  rw [HF.out] at hst
  go_wp2_with fail
  refine (pgood_c _ _ _ _ _ _).mono ?_
  rintro e w1 ⟨rfl, hb⟩
  replace HG := Aside0.mk (GW_below HG.out hb)
  rw [← HF.out]
  clear hb hst hc0 hc1 hc2 hc3 hc4 hc5 hc6
  obtain ⟨b, hbb⟩ : ∃ b, b = okConf x.f0 := ⟨_, rfl⟩
  rw [show okConf ⟨x.f0.f0, x.f0.f1, x.f0.f2, x.f0.f3, x.f0.f4⟩ = b from hbb.symm]
  have hc0 := (blk_cell HG.out.1 0).trans rfl
  have hc1 := (blk_cell HG.out.1 1).trans rfl
  have hc2 := (blk_cell HG.out.1 2).trans rfl
  have hc3 := (blk_cell HG.out.1 3).trans rfl
  have hc4 := (blk_cell HG.out.1 4).trans rfl
  have hc5 := (blk_cell HG.out.1 5).trans rfl
  have hc6 := (blk_cell HG.out.1 6).trans rfl
  cases hq : b
  · have hbb := hbb
    rw [hq] at hbb
    have HBB := Aside0.mk hbb.symm
    clear hbb hq
    go_wp2
    go_ret
    exact ⟨ret_bool (by unfold goodB; rw [HBB.out]; rfl), HG.out.2.2.2.2.2⟩
  · rw [hq] at hbb
    have HBB := Aside0.mk hbb.symm
    clear hbb hq
    by_cases n5 : x.f1.length ≤ 64
    · have i5 : ¬ (x.f1.length : Int) > 64 := by omega
      by_cases n6 : x.f2.length ≤ 4096
      · have i6 : ¬ (x.f2.length : Int) > 4096 := by omega
        have HL5 := Aside0.mk n5
        have HL6 := Aside0.mk n6
        clear n5 n6 l5 l6 hc0 hc1 hc2 hc3 hc4
        go_wp2
        clear hc5 hc6 i5 i6
        go_loopw [26] (fun i wr => ∃ k : Nat, k ≤ x.f1.length ∧ i = .int .i64 k ∧ GW w wr x A5 c5 A6 c6 f aA ∧ (x.f1.take k).all (goodT x) = true) (fun i _ => x.f1.length - (intOf i).toNat)
        case atStart => exact ⟨0, Nat.zero_le _, rfl, HG.out, rfl⟩
        case round =>
          obtain ⟨k, hk, rfl, hG, hs⟩ := hrel
          have HS := Aside0.mk hs
          replace HG := Aside0.mk hG
          clear hs hG
          by_cases hlt : k < x.f1.length
          · have P5 := Aside0.mk HG.out.2.2.1
            obtain ⟨ad, eA, q0, q1, q2, q3, q4⟩ := at_T37 P5.out (k : Int) (by omega) (by omega)
            simp only [Int.toNat_natCast] at q0 q1 q2 q3 q4
            cases eA
            obtain ⟨y, hy⟩ : ∃ y, y = rd_T37 x.f1 (k : Int) := ⟨_, rfl⟩
            rw [← hy] at q0 q1 q2 q3 q4
            have hsn := take_snoc x.f1 z37 k hlt
            rw [show x.f1.getD k z37 = y by rw [hy]; simp [rd_T37]] at hsn
            have hmem : y ∈ x.f1 := by rw [hy]; unfold rd_T37; simp [List.getD, hlt]
            have hno : goodT x y = false → goodB x = false := fun h => by unfold goodB; rw [show x.f1.all (goodT x) = false from List.all_eq_false.2 ⟨y, hmem, by rw [h]; decide⟩]; simp
            have hlk : (k : Int) < (x.f1.length : Int) := by omega
            have HSN := Aside0.mk hsn
            have HNO := Aside0.mk hno
            have HY := Aside0.mk hy
            clear hsn hmem hno hy P5
            have hb := below_alloc (Below.refl wr.heap.size wr) (.cells #[.int .i64 y.f0, .int .i64 y.f1.f0, .int .i64 y.f1.f1, .int .i64 y.f1.f2, .int .i64 y.f1.f3] 37)
            replace HG := Aside0.mk (GW_below HG.out hb)
            have hf0 := (blk_cell HG.out.2.1 0).trans rfl
            have hc0 := (blk_cell HG.out.1 0).trans rfl
            have hc2 := (blk_cell HG.out.1 2).trans rfl
            clear hb
            go_wp2_with fail
            refine (thr_c _ _ _ _ hc2).mono ?_
            rintro e w2 ⟨rfl, rfl⟩
            cases hq : decide (0 ≤ y.f0 ∧ y.f0 < x.f0.f2)
            · have hn := HNO.out (by unfold goodT; rw [hq]; rfl)
              have HN := Aside0.mk hn
              clear hn hq HNO
              go_wp2
              go_ret
              exact ⟨ret_bool (by rw [HN.out]), HG.out.2.2.2.2.2⟩
            · have HQ := Aside0.mk hq
              clear hq
              go_wp2_with fail
              refine (fits_c _ _ _ _ _ aA _ HG.out.2.2.2.2.1).mono ?_
              rintro e w2 ⟨rfl, hb⟩
              replace HG := Aside0.mk (GW_below HG.out hb)
              clear hb hf0 hc0 hc2 q0 q1 q2 q3 q4
              cases hq2 : fits x.f0.f0 y.f1
              · skip
                have hn := HNO.out (by unfold goodT; rw [HQ.out, hq2]; rfl)
                have HN := Aside0.mk hn
                clear hn hq2 HNO
                go_wp2
                go_ret
                exact ⟨ret_bool (by rw [HN.out]), HG.out.2.2.2.2.2⟩
              · skip
                have hgt : goodT x y = true := by unfold goodT; rw [HQ.out, hq2]; rfl
                have HGT := Aside0.mk hgt
                clear hgt hq2
                go_wp2
                go_roundw
                case rel => exact ⟨k + 1, by omega, by go_num, HG.out, by rw [HSN.out, List.all_append, HS.out]; simp [HGT.out]⟩
                case measure => simp [intOf]; omega
          · obtain rfl : k = x.f1.length := by omega
            have hs := HS.out
            rw [List.take_length] at hs
            have HS := Aside0.mk hs
            clear hs
            have hc6 := (blk_cell HG.out.1 6).trans rfl
            have hf0 := (blk_cell HG.out.2.1 0).trans rfl
            go_wp2_with fail
            refine (cont_c A6 c6 x.f2 w.heap.size f x.f0.f2 _ HG.out.2.2.2.1 ((blk_cell HG.out.2.1 0).trans rfl) ((blk_cell HG.out.1 2).trans rfl)).mono ?_
            rintro e w2 ⟨rfl, rfl⟩
            go_wp2
            go_ret
            exact ⟨ret_bool (by unfold goodB; rw [HS.out, HBB.out]; simp [HL5.out, HL6.out]), HG.out.2.2.2.2.2⟩
      · have i6 : (x.f2.length : Int) > 4096 := by omega
        have HL := Aside0.mk n6
        clear n6
        go_wp2
        go_ret
        exact ⟨ret_bool (by unfold goodB; simp [HL.out]), HG.out.2.2.2.2.2⟩
    · have i5 : (x.f1.length : Int) > 64 := by omega
      have HL := Aside0.mk n5
      clear n5
      go_wp2
      go_ret
      exact ⟨ret_bool (by unfold goodB; simp [HL.out]), HG.out.2.2.2.2.2⟩
end Go.Proofs.YtlcfkdglknkbdaaDoor.Lo
