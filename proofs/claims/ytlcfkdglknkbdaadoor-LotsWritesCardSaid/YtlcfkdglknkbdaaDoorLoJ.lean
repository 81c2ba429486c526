/- lots: Encode. (Partly printed by gen_enc.py.) -/
import Derived.Test.YtlcfkdglknkbdaaDoorLoI
namespace Go.Proofs.YtlcfkdglknkbdaaDoor.Lo
open Go.RowKit Go.Proofs.YtlcfkdglknkbdaaDoorW.PrintWords Go.Proofs.YtlcfkdglknkbdaaDoorW.PrintLast Go.Proofs.YtlcfkdglknkbdaaDoorW.PrintMore Go.Proofs.YtlcfkdglknkbdaaDoor.X
set_option linter.unusedVariables false
set_option linter.unusedSimpArgs false

theorem info5 : (Tryd.prog.info? 5).map (fun i => (i.zero, i.size, i.bytes)) = some (some (.int .u8 0), 1, 1) := by kernel_rfl
/-! ### what is encoded -/
abbrev b8 (n : Int) : Int := n
def hdL (x : S28) : List Int := [b8 (x.f0.f0 - 1), b8 (x.f0.f1 - 1), b8 (x.f0.f2 - 1), b8 x.f0.f3, b8 (x.f0.f4 - 1), b8 x.f1.length]
def tkL (st : Int) (t : S37) : List Int := [b8 t.f0, b8 (idxI (kindsL st) t.f1.f0), b8 (argX t.f1), b8 (argY t.f1)]
def enL (x : S28) (k j : Nat) : List Int := hdL x ++ (x.f1.take k).flatMap (tkL x.f0.f0) ++ (x.f2.take j).map b8
def encL (x : S28) : List Int := enL x x.f1.length x.f2.length
def encB (x : S28) : Bool := goodB x && (decide (x.f0.f3 < 256) && x.f1.all fun t => argB x.f0.f0 t.f1)
theorem flat_len (st : Int) (l : List S37) : (l.flatMap (tkL st)).length = 4 * l.length := by
  induction l with
  | nil => rfl
  | cons a l ih => rw [List.flatMap_cons, List.length_append, ih, List.length_cons]; show 4 + _ = _; omega
theorem enL_len (x : S28) (k j : Nat) (hk : k ≤ x.f1.length) (hj : j ≤ x.f2.length) : (enL x k j).length = 6 + 4 * k + j := by
  unfold enL
  rw [List.length_append, List.length_append, flat_len, List.length_map, List.length_take, List.length_take]
  show 6 + _ + _ = _
  omega
theorem enL_task (x : S28) (k : Nat) (y : S37) (h : x.f1.take (k + 1) = x.f1.take k ++ [y]) : enL x (k + 1) 0 = enL x k 0 ++ tkL x.f0.f0 y := by
  unfold enL
  rw [h, List.flatMap_append]
  simp
theorem enL_pick (x : S28) (k j : Nat) (y : Int) (h : x.f2.take (j + 1) = x.f2.take j ++ [y]) : enL x k (j + 1) = enL x k j ++ [b8 y] := by
  unfold enL
  rw [h, List.map_append]
  simp
theorem fits_val {st : Int} {o : S35} (h : fits st o = true) : 0 ≤ o.f2 ∧ o.f2 ≤ 1073741824 := by
  unfold fits okPile okCort okKey at h
  split at h
  · have := of_decide_eq_true h; omega
  · split at h
    · have := of_decide_eq_true h; omega
    · split at h
      · have := of_decide_eq_true (Bool.and_eq_true_iff.1 h).1; omega
      · split at h
        · have := of_decide_eq_true (Bool.and_eq_true_iff.1 h).1; omega
        · cases h
theorem good_conf {x : S28} (h : goodB x = true) : okConf x.f0 = true ∧ x.f1.length ≤ 64 ∧ x.f2.length ≤ 4096 ∧ x.f1.all (goodT x) = true ∧ (x.f2.all fun n => decide (0 ≤ n ∧ n < x.f0.f2)) = true := by
  unfold goodB at h
  simp only [Bool.and_eq_true, decide_eq_true_eq] at h
  exact ⟨h.1.1, h.1.2.1, h.1.2.2, h.2.1, h.2.2⟩
theorem okConf_b {c : S24} (h : okConf c = true) : (1 ≤ c.f0 ∧ c.f0 ≤ 5) ∧ (1 ≤ c.f1 ∧ c.f1 ≤ 5) ∧ (1 ≤ c.f2 ∧ c.f2 ≤ 6) ∧ (0 ≤ c.f3 ∧ c.f3 ≤ 1024) ∧ (1 ≤ c.f4 ∧ c.f4 ≤ 64) := of_decide_eq_true h
theorem byt {st : Int} {o : S35} (hs : 1 ≤ st ∧ st ≤ 5) (h : fits st o = true) : (0 ≤ idxI (kindsL st) o.f0 ∧ idxI (kindsL st) o.f0 < 256) ∧ 0 ≤ o.f1 ∧ True := by
  have hk : (st = 1 ∧ (o.f0 = 1 ∨ o.f0 = 2 ∨ o.f0 = 3) ∨ st = 2 ∧ (o.f0 = 4 ∨ o.f0 = 5) ∨ (st = 3 ∨ st = 4 ∨ st = 5) ∧ (o.f0 = 6 ∨ o.f0 = 7 ∨ o.f0 = 8)) ∧ 0 ≤ o.f1 := by
    unfold fits okPile okCort okKey at h
    split at h
    · have := of_decide_eq_true h; omega
    · split at h
      · have := of_decide_eq_true h; omega
      · split at h
        · have := of_decide_eq_true (Bool.and_eq_true_iff.1 h).1; omega
        · split at h
          · have := of_decide_eq_true (Bool.and_eq_true_iff.1 h).1; omega
          · cases h
  refine ⟨?_, hk.2, trivial⟩
  rcases hk.1 with ⟨rfl, h0 | h0 | h0⟩ | ⟨rfl, h0 | h0⟩ | ⟨rfl | rfl | rfl, h0 | h0 | h0⟩ <;> rw [h0] <;> decide
theorem argB_b {st : Int} {o : S35} (h : argB st o = true) (hk : 0 ≤ o.f1) (hv : 0 ≤ o.f2) : (0 ≤ argX o ∧ argX o < 256) ∧ (0 ≤ argY o ∧ argY o < 256) := by
  have h1 := of_decide_eq_true h
  refine ⟨⟨?_, h1.2.1⟩, ⟨?_, h1.2.2⟩⟩
  · unfold argX; split <;> omega
  · unfold argY; split <;> omega
abbrev ccells (c : S24) : Array Value := #[.int .i64 c.f0, .int .i64 c.f1, .int .i64 c.f2, .int .i64 c.f3, .int .i64 c.f4]
/-- What stays while a script is encoded. -/
def EW (w wr : World) (x : S28) (A5 : Option Addr) (c5 : Nat) (A6 : Option Addr) (c6 cb : Nat) : Prop :=
  wr.heap[w.heap.size]? = some (.cells (scells x A5 c5 A6 c6) 28 (0, 0)) ∧ wr.heap[cb]? = some (.cells (ccells x.f0) 24 (0, 0)) ∧ Below w.heap.size w wr
theorem EW_below {w wr w1 : World} {x : S28} {A5 : Option Addr} {c5 : Nat} {A6 : Option Addr} {c6 cb : Nat} (h : EW w wr x A5 c5 A6 c6 cb) (hb : Below wr.heap.size wr w1) : EW w w1 x A5 c5 A6 c6 cb := by
  obtain ⟨h1, h2, h6⟩ := h
  exact ⟨blk_below hb h1, blk_below hb h2, below_step h6 hb⟩
theorem EW_grown {w wr w1 : World} {x : S28} {A5 : Option Addr} {c5 : Nat} {A6 : Option Addr} {c6 cb : Nat} {v : Value} {out : List Int} (h : EW w wr x A5 c5 A6 c6 cb) (hR : Kd.R (Kd.int .u8) 5 wr w.heap.size (fun _ => True) v out) (hg : wr.grownBy w1 v.ownBlock) (hb : Below w.heap.size w w1) : EW w w1 x A5 c5 A6 c6 cb := by
  obtain ⟨h1, h2, h6⟩ := h
  exact ⟨blk_grownBy hg (Kd.R_ne hR h1 (by decide)) h1, blk_grownBy hg (Kd.R_ne hR h2 (by decide)) h2, hb⟩
def enc11.T11 : Bool × List (List Nat × List Nat) := (true, [([], []), ([], []), ([1], [1]), ([2], [2]), ([], []), ([4], [4]), ([5], [5]), ([], []), ([7], [7]), ([8], [8]), ([6, 9, 6], [6, 9]), ([10], [10]), ([], []), ([12], [12]), ([], []), ([14], [14]), ([3, 11, 13, 15], [3, 11, 13, 15]), ([0, 16, 10], [0, 16]), ([17, 17, 0, 1, 2, 3, 4, 5, 6, 7, 8, 9, 10, 11, 12, 13, 14, 15, 16, 17], [0, 17])])
def enc11.B11 : List Nat := [0, 0, 2, 6, 0, 16, 48, 0, 128, 384, 1008, 2032, 0, 4096, 0, 16384, 65534, 131071, 262143]
theorem enc11.tab11 : rtab .any (opsOf Tryd.f10 11) = enc11.T11 := by kernel_rfl
theorem enc11.bits11 : waitsOk enc11.T11.2 enc11.B11 = true := by kernel_rfl
set_option maxHeartbeats 4000000 in
set_option maxRecDepth 100000 in
theorem enc_c {u : Value} {x : S28} {w : World} (hu : SV w x u) (aA : Addr) (hA : w.cell? gArg = some (Sent aA)) :
    Calls Tryd.prog 10 #[u] w fun e w' => ∃ s v, e = .returned (.tuple #[.string s, v]) ∧ (encB x = true → v = .nilIface ∧ s = strOfNums (encL x)) ∧ (encB x = false → s = ⟨#[]⟩ ∧ Ats w' aA v) ∧ Below w.heap.size w w' := by
  obtain ⟨A5, c5, A6, c6, rfl, l5, p5, l6, p6⟩ := hu
  have h1 := Tryd.underlying24
  have h2 := Tryd.underlying28
  have h3 := Tryd.underlying37
  have h4 := Tryd.underlying35
  have m5 := Kd.C_max p5
  have m6 := Kd.C_max p6
  have hX0 := blk_new w (.cells (scells x A5 c5 A6 c6) 28)
  have hb0 := below_alloc (Below.refl w.heap.size w) (.cells (scells x A5 c5 A6 c6) 28)
  have hsz : (w.alloc (.cells (scells x A5 c5 A6 c6) 28)).heap.size = w.heap.size + 1 := by unfold World.alloc; exact Array.size_push _
  have hb1 := below_alloc (Below.refl _ (w.alloc (.cells (scells x A5 c5 A6 c6) 28))) (.cells (ccells x.f0) 24)
  have hC0 := blk_new (w.alloc (.cells (scells x A5 c5 A6 c6) 28)) (.cells (ccells x.f0) 24)
  rw [hsz] at hC0
  have hE : EW w ((w.alloc (.cells (scells x A5 c5 A6 c6) 28)).alloc (.cells (ccells x.f0) 24)) x A5 c5 A6 c6 (w.heap.size + 1) := ⟨blk_below hb1 hX0, hC0, below_step hb0 hb1⟩
  have hSV : SV ((w.alloc (.cells (scells x A5 c5 A6 c6) 28)).alloc (.cells (ccells x.f0) 24)) x (.agg (scells x A5 c5 A6 c6)) := SV_below (SV_below ⟨A5, c5, A6, c6, rfl, l5, p5, l6, p6⟩ hb0) hb1
  have HE := Aside0.mk hE
  have HSV := Aside0.mk hSV
  clear hE hSV hC0 hb1 hsz hb0 hX0 l5 l6
  have P5 := Aside0.mk p5
  clear p5
  have P6 := Aside0.mk p6
  clear p6
  have HA := Aside0.mk hA
  clear hA
  go_enter Tryd.func10, Tryd.ntmps10
  go_wp2_with fail
  refine (good_c HSV.out aA (pw_cell_below HE.out.2.2 HA.out)).mono ?_
  rintro e w1 ⟨rfl, hb⟩
  replace HE := Aside0.mk (EW_below HE.out hb)
  obtain ⟨cb, hcb⟩ : ∃ z, z = w.heap.size + 1 := ⟨_, rfl⟩
  rw [← hcb] at HE ⊢
  clear hb HSV hcb
  have hd0 := (blk_cell HE.out.2.1 0).trans rfl
  have hd1 := (blk_cell HE.out.2.1 1).trans rfl
  have hd2 := (blk_cell HE.out.2.1 2).trans rfl
  have hd3 := (blk_cell HE.out.2.1 3).trans rfl
  have hd4 := (blk_cell HE.out.2.1 4).trans rfl
  have hc5 := (blk_cell HE.out.1 5).trans rfl
  cases hq : goodB x
  · have hA1 := pw_cell_below HE.out.2.2 HA.out
    go_wp2_with fail
    refine (at_s _ aA _).mono ?_
    rintro e w3 ⟨v, rfl, hv, hb⟩
    have HV := Aside0.mk hv
    have HB := Aside0.mk (below_step HE.out.2.2 hb)
    clear hv hb hA1 hd0 hd1 hd2 hd3 hd4 hc5 HE
    have hn : encB x = false := by unfold encB; rw [hq]; rfl
    have HN := Aside0.mk hn
    clear hn hq
    go_wp2
    go_ret2
    exact ⟨_, _, rfl, (fun h => by rw [HN.out] at h; cases h), (fun _ => ⟨rfl, HV.out⟩), HB.out⟩
  · obtain ⟨hok, n5, n6, hT, hP⟩ := good_conf hq
    obtain ⟨⟨s1, s2⟩, ⟨e1, e2⟩, ⟨t1, t2⟩, ⟨o1, o2⟩, ⟨r1, r2⟩⟩ := okConf_b hok
    have HQ := Aside0.mk hq
    have HTG := Aside0.mk hT
    have HPG := Aside0.mk hP
    clear hq hok hT hP
    by_cases hsl : x.f0.f3 < 256
    · have k0 : wrap64 (x.f0.f0 - 1) = x.f0.f0 - 1 := by unfold wrap64; omega
      have k1 : wrap64 (x.f0.f1 - 1) = x.f0.f1 - 1 := by unfold wrap64; omega
      have k2 : wrap64 (x.f0.f2 - 1) = x.f0.f2 - 1 := by unfold wrap64; omega
      have k4 : wrap64 (x.f0.f4 - 1) = x.f0.f4 - 1 := by unfold wrap64; omega
      have hb := below_alloc (Below.refl w1.heap.size w1) (.cells #[.int .u8 (x.f0.f0 - 1), .int .u8 (x.f0.f1 - 1), .int .u8 (x.f0.f2 - 1), .int .u8 x.f0.f3, .int .u8 (x.f0.f4 - 1), .int .u8 x.f1.length] 5)
      have hE2 := EW_below HE.out hb
      have hc5' := (blk_cell hE2.1 5).trans rfl
      have hR := R_lit_alloc (Kd.int .u8) 5 (base := w.heap.size) w1 HE.out.2.2.size (xs := enL x 0 0) (inner := [.int .u8 (x.f0.f0 - 1), .int .u8 (x.f0.f1 - 1), .int .u8 (x.f0.f2 - 1), .int .u8 x.f0.f3, .int .u8 (x.f0.f4 - 1), .int .u8 x.f1.length]) (Reps.cons (c := [_]) rfl rfl (Reps.cons (c := [_]) rfl rfl (Reps.cons (c := [_]) rfl rfl (Reps.cons (c := [_]) rfl rfl (Reps.cons (c := [_]) rfl rfl (Reps.cons (c := [_]) rfl rfl (Reps.none _ _))))))) (by rw [enL_len x 0 0 (by omega) (by omega)]; decide)
      have HST : Aside0 (1 ≤ x.f0.f0 ∧ x.f0.f0 ≤ 5) := Aside0.mk ⟨s1, s2⟩
      have HTH : Aside0 (1 ≤ x.f0.f2 ∧ x.f0.f2 ≤ 6) := Aside0.mk ⟨t1, t2⟩
      replace HE := Aside0.mk hE2
      have HR := Aside0.mk hR
      clear hb hE2 hR
      go_wp2
      clear hc5 hc5' hd0 hd1 hd2 hd3 hd4 k0 k1 k2 k4
      have HSL := Aside0.mk hsl
      clear hsl
      go_loopw [5, 54] (fun o i wr => ∃ (k : Nat) (v73_ : Value), v73_ = o ∧ k ≤ x.f1.length ∧ i = .int .i64 k ∧ EW w wr x A5 c5 A6 c6 cb ∧ Kd.R (Kd.int .u8) 5 wr w.heap.size (fun _ => True) v73_ (enL x k 0) ∧ ((x.f1.take k).all fun t => argB x.f0.f0 t.f1) = true) (fun _ i _ => x.f1.length - (intOf i).toNat)
      case atStart => exact ⟨0, _, rfl, Nat.zero_le _, rfl, HE.out, HR.out, by simp⟩
      case round =>
        clear HR
        obtain ⟨k, v73_, hv73, hk, rfl, hE, hR, hs⟩ := hrel
        subst hv73
        have HS := Aside0.mk hs
        replace HE := Aside0.mk hE
        clear hs hE
        by_cases hlt : k < x.f1.length
        · have P5W := Aside0.mk (Kd.C_below P5.out HE.out.2.2)
          obtain ⟨ad, eA, q0, q1, q2, q3, q4⟩ := at_T37 P5W.out (k : Int) (by omega) (by omega)
          simp only [Int.toNat_natCast] at q0 q1 q2 q3 q4
          cases eA
          obtain ⟨y, hy⟩ : ∃ y, y = rd_T37 x.f1 (k : Int) := ⟨_, rfl⟩
          rw [← hy] at q0 q1 q2 q3 q4
          have hsn := take_snoc x.f1 z37 k hlt
          rw [show x.f1.getD k z37 = y by rw [hy]; simp [rd_T37]] at hsn
          have hmem : y ∈ x.f1 := by rw [hy]; unfold rd_T37; simp [List.getD, hlt]
          have hgt := List.all_eq_true.1 HTG.out y hmem
          have hnx := enL_task x k y hsn
          have hno : argB x.f0.f0 y.f1 = false → encB x = false := fun h => by unfold encB; rw [show (x.f1.all fun t => argB x.f0.f0 t.f1) = false from List.all_eq_false.2 ⟨y, hmem, by rw [h]; decide⟩]; simp
          have hlk : (k : Int) < (x.f1.length : Int) := by omega
          have hft := (Bool.and_eq_true_iff.1 hgt).2
          obtain ⟨hv0, hv1⟩ := fits_val hft
          have hyt : 0 ≤ y.f0 ∧ y.f0 < 256 := by have := of_decide_eq_true (Bool.and_eq_true_iff.1 hgt).1; omega
          have hyb := byt HST.out hft
          have HSN := Aside0.mk hsn
          have HNO := Aside0.mk hno
          have HNX := Aside0.mk hnx
          have BY0 := Aside0.mk hyt
          have BYI := Aside0.mk hyb.1
          have HYB := Aside0.mk hyb.2
          clear hsn hmem hno hgt hnx hft hyt hyb hy P5W
          obtain ⟨out, hout⟩ : ∃ out, out = enL x k 0 := ⟨_, rfl⟩
          have hol : out.length ≤ 300 := by rw [hout, enL_len x k 0 hk (by omega)]; omega
          rw [← hout] at hR
          have HOL := Aside0.mk hol
          have HOUT := Aside0.mk hout
          clear hol hout
          have hb := below_alloc (Below.refl wr.heap.size wr) (.cells #[.int .i64 y.f0, .int .i64 y.f1.f0, .int .i64 y.f1.f1, .int .i64 y.f1.f2, .int .i64 y.f1.f3] 37)
          have hT := blk_new wr (.cells #[.int .i64 y.f0, .int .i64 y.f1.f0, .int .i64 y.f1.f1, .int .i64 y.f1.f2, .int .i64 y.f1.f3] 37)
          replace HE := Aside0.mk (EW_below HE.out hb)
          replace hR := Kd.R_below hR hb
          have hc0 := (blk_cell HE.out.2.1 0).trans rfl
          have HT := Aside0.mk hT
          have HR := Aside0.mk hR
          clear hb hT hR
          go_wp2_with fail
          refine (args_c x.f0.f0 y.f1.f0 y.f1.f1 y.f1.f2 y.f1.f3 _ hv0 hv1).mono ?_
          rintro e w2 ⟨ha1, ha2, hb⟩
          obtain ⟨tb, htb⟩ : ∃ z, z = wr.heap.size := ⟨_, rfl⟩
          replace HE := Aside0.mk (EW_below HE.out hb)
          replace HR := Aside0.mk (Kd.R_below HR.out hb)
          replace HT := Aside0.mk (blk_below hb HT.out)
          rw [← htb] at HT ⊢
          clear hb htb hc0 q0 q1 q2 q3 q4
          cases hq : argB x.f0.f0 y.f1
          · obtain ⟨xx, yy, rfl⟩ := ha2 hq
            have hn := HNO.out hq
            have HN := Aside0.mk hn
            have hA1 := pw_cell_below HE.out.2.2 HA.out
            clear ha1 ha2 hn hq
            go_wp2_with fail
            refine (at_s _ aA _).mono ?_
            rintro e w3 ⟨v, rfl, hv, hb⟩
            have HV := Aside0.mk hv
            have HB := Aside0.mk (below_step HE.out.2.2 hb)
            clear hv hb hA1 HE HR HT
            go_wp2
            go_ret2
            exact ⟨_, _, rfl, (fun h => by rw [HN.out] at h; cases h), (fun _ => ⟨rfl, HV.out⟩), HB.out⟩
          · obtain rfl := ha1 hq
            have hbx := argB_b hq HYB.out.1 hv0
            have BYX := Aside0.mk hbx.1
            have BYY := Aside0.mk hbx.2
            have HQB := Aside0.mk hq
            have FT := HT
            have RO73 := HR
            clear ha1 ha2 hq hbx HT HR
            go_wp2
            refine start_ (n := 19) (S := fun w' => True) (ds := []) #[false, false, false, false, false, false, false, false, false, false, false, false, false, false, false, false, false, false, false] (by kernel_rfl) rfl rfl trivial (fun hHeld => ?_)
            refine with_tabW enc11.tab11 enc11.bits11 (fun HT_ HW_ => ?_)
            have HBr := Aside0.mk (below_drew1 HE.out.2.2)
            refine inv_at [0, 1, 2, 3, 4, 5, 6, 7, 8, 9, 10, 11, 12, 13, 14, 15, 16, 17, 18] (fun a0_ b a w' => ∃ (gk_ : Nat) (g89_ : Nat) (v90_ : Value) (m6_ : Value) (m16_ : Value) (m18_ : Value), a = putSel a0_ b [(0, 73, v73_), (1, 74, .pointer (some ⟨tb, 0, none⟩)), (2, 75, .int .i64 y.f0), (3, 76, .int .u8 y.f0), (4, 77, .pointer (some ⟨cb, 0, none⟩)), (5, 78, .int .i64 x.f0.f0), (6, 79, m6_), (7, 80, .pointer (some ⟨tb, 1, none⟩)), (8, 81, .pointer (some ⟨tb, 1, none⟩)), (9, 82, .int .i64 y.f1.f0), (10, 83, .int .i64 (idxI (kindsL x.f0.f0) y.f1.f0)), (11, 84, .int .u8 (idxI (kindsL x.f0.f0) y.f1.f0)), (12, 85, .int .i64 (argX y.f1)), (13, 86, .int .u8 (argX y.f1)), (14, 87, .int .i64 (argY y.f1)), (15, 88, .int .u8 (argY y.f1)), (16, 89, m16_), (17, 90, v90_), (18, 5, m18_)] ∧ (Below w.heap.size w w') ∧ (b 17 = false → Kd.R (Kd.int .u8) 5 w' w.heap.size (fun _ => True) v73_ (out)) ∧ (EW w w' x (some ad) c5 A6 c6 cb) ∧ (b 17 = false → w'.heap[tb]? = some (.cells #[.int .i64 y.f0, .int .i64 y.f1.f0, .int .i64 y.f1.f1, .int .i64 y.f1.f2, .int .i64 y.f1.f3] 37 (0, 0))) ∧ (b 6 = true → b 17 = false → (Kd.int .i64).C w' (some ⟨gk_, 0, none⟩) (kindsL x.f0.f0).length (kindsL x.f0.f0)) ∧ (b 16 = true → w'.heap[g89_]? = some (.cells #[.int .u8 y.f0, .int .u8 (idxI (kindsL x.f0.f0) y.f1.f0), .int .u8 (argX y.f1), .int .u8 (argY y.f1)] 5 (0, 0))) ∧ (b 17 = true → Kd.R (Kd.int .u8) 5 w' w.heap.size (fun _ => True) v90_ (out ++ [y.f0, idxI (kindsL x.f0.f0) y.f1.f0, argX y.f1, argY y.f1])) ∧ (b 16 = true → b 17 = false → some g89_ ≠ v73_.ownBlock) ∧ (b 6 = true → (m6_ : Value) = .slice (some ⟨gk_, 0, none⟩) (kindsL x.f0.f0).length (kindsL x.f0.f0).length) ∧ (b 16 = true → (m16_ : Value) = .slice (some ⟨g89_, 0, none⟩) 4 4) ∧ (b 18 = true → (m18_ : Value) = v90_)) HT_.out HW_.out (by kernel_rfl) (by kernel_rfl) ?_ ?_ ?_
            · exact ⟨0, 0, .bool false, .bool false, .bool false, .bool false, by simp only [putSel, Bool.false_eq_true, if_false], HBr.out, fun _ => RO73.out, EW_below HE.out (below_drew (Below.refl _ _)), fun _ => FT.out, fun h_ => absurd h_ (by decide), fun h_ => absurd h_ (by decide), fun h_ => absurd h_ (by decide), fun h_ => absurd h_ (by decide), fun h_ => absurd h_ (by decide), fun h_ => absurd h_ (by decide), fun h_ => absurd h_ (by decide)⟩
            · skip
              clear FT HBr HE RO73
              refine steps_cons ?_ ?_
              · rintro b a w' ⟨gk_, g89_, v90_, m6_, m16_, m18_, ha, Q_HBr, Q_RO73, Q_HE, Q_FT, Q_FK, Q_BL89, Q_RO90, Q_NE73_89, Q_X6_, Q_X16_, Q_X18_⟩ hb_ hon hoff
                refine ⟨_, rfl, fun K hK => ?_⟩
                have e5 : a.tmps[5]? = some (v73_) := by rw [ha]; exact (putSel_not (hoff 18 (by kernel_rfl)) rfl).trans rfl
                replace ha := Aside0.mk ha
                have HBr := Aside0.mk Q_HBr
                have RO73 := Aside0.mk (Q_RO73 (hoff 17 (by kernel_rfl)))
                have HE := Aside0.mk Q_HE
                have FT := Aside0.mk (Q_FT (hoff 17 (by kernel_rfl)))
                refine value_ (w1 := w') (v := v73_) ?cA ?cB ?_ ?_
                case cA => rfl
                case cB => rfl
                · go_simp
                  (try simp only [i64_w])
                  (try exact IntWalk.u8_in _ (by omega))
                  try rfl
                refine hK.out _ _ ⟨gk_, g89_, v90_, m6_, m16_, m18_, (by rw [ha.out]; exact putSel_upk 0 hb_ rfl rfl rfl), Q_HBr, Q_RO73, Q_HE, Q_FT, Q_FK, Q_BL89, fun h0_ => absurd ((hoff 17 (by kernel_rfl)).symm.trans h0_) (by decide), Q_NE73_89, Q_X6_, Q_X16_, fun h0_ => absurd ((hoff 18 (by kernel_rfl)).symm.trans h0_) (by decide)⟩
              refine steps_cons ?_ ?_
              · rintro b a w' ⟨gk_, g89_, v90_, m6_, m16_, m18_, ha, Q_HBr, Q_RO73, Q_HE, Q_FT, Q_FK, Q_BL89, Q_RO90, Q_NE73_89, Q_X6_, Q_X16_, Q_X18_⟩ hb_ hon hoff
                refine ⟨_, rfl, fun K hK => ?_⟩
                have e7 : a.tmps[7]? = some (.pointer (some ⟨tb, 0, none⟩)) := by rw [ha]; exact (putSel_off rfl).trans rfl
                replace ha := Aside0.mk ha
                have HBr := Aside0.mk Q_HBr
                have RO73 := Aside0.mk (Q_RO73 (hoff 17 (by kernel_rfl)))
                have HE := Aside0.mk Q_HE
                have FT := Aside0.mk (Q_FT (hoff 17 (by kernel_rfl)))
                refine value_ (w1 := w') (v := .pointer (some ⟨tb, 0, none⟩)) ?cA ?cB ?_ ?_
                case cA => rfl
                case cB => rfl
                · go_simp
                  (try simp only [i64_w])
                  (try exact IntWalk.u8_in _ (by omega))
                  try rfl
                refine hK.out _ _ ⟨gk_, g89_, v90_, m6_, m16_, m18_, (by rw [ha.out]; exact putSel_upk 1 hb_ rfl rfl rfl), Q_HBr, Q_RO73, Q_HE, Q_FT, Q_FK, fun h0_ => absurd ((hoff 16 (by kernel_rfl)).symm.trans h0_) (by decide), fun h0_ => absurd ((hoff 17 (by kernel_rfl)).symm.trans h0_) (by decide), fun h0_ _ => absurd ((hoff 16 (by kernel_rfl)).symm.trans h0_) (by decide), Q_X6_, fun h0_ => absurd ((hoff 16 (by kernel_rfl)).symm.trans h0_) (by decide), fun h0_ => absurd ((hoff 18 (by kernel_rfl)).symm.trans h0_) (by decide)⟩
              refine steps_cons ?_ ?_
              · rintro b a w' ⟨gk_, g89_, v90_, m6_, m16_, m18_, ha, Q_HBr, Q_RO73, Q_HE, Q_FT, Q_FK, Q_BL89, Q_RO90, Q_NE73_89, Q_X6_, Q_X16_, Q_X18_⟩ hb_ hon hoff
                refine ⟨_, rfl, fun K hK => ?_⟩
                have e74 : a.tmps[74]? = some (.pointer (some ⟨tb, 0, none⟩)) := by rw [ha]; exact putSel_on (e := (1, 74, .pointer (some ⟨tb, 0, none⟩))) 1 rfl rfl (hon 1 (by kernel_rfl)) rfl
                replace ha := Aside0.mk ha
                have HBr := Aside0.mk Q_HBr
                have RO73 := Aside0.mk (Q_RO73 (hoff 17 (by kernel_rfl)))
                have HE := Aside0.mk Q_HE
                have FT := Aside0.mk (Q_FT (hoff 17 (by kernel_rfl)))
                have z0_ : w'.cell? ⟨tb, 0, none⟩ = some (.int .i64 y.f0) := (blk_cell (FT.out) 0).trans rfl
                refine value_ (w1 := w') (v := .int .i64 y.f0) ?cA ?cB ?_ ?_
                case cA => rfl
                case cB => rfl
                · go_simp
                  (try simp only [i64_w])
                  (try exact IntWalk.u8_in _ (by omega))
                  try rfl
                refine hK.out _ _ ⟨gk_, g89_, v90_, m6_, m16_, m18_, (by rw [ha.out]; exact putSel_upk 2 hb_ rfl rfl rfl), Q_HBr, Q_RO73, Q_HE, Q_FT, Q_FK, fun h0_ => absurd ((hoff 16 (by kernel_rfl)).symm.trans h0_) (by decide), fun h0_ => absurd ((hoff 17 (by kernel_rfl)).symm.trans h0_) (by decide), fun h0_ _ => absurd ((hoff 16 (by kernel_rfl)).symm.trans h0_) (by decide), Q_X6_, fun h0_ => absurd ((hoff 16 (by kernel_rfl)).symm.trans h0_) (by decide), fun h0_ => absurd ((hoff 18 (by kernel_rfl)).symm.trans h0_) (by decide)⟩
              refine steps_cons ?_ ?_
              · rintro b a w' ⟨gk_, g89_, v90_, m6_, m16_, m18_, ha, Q_HBr, Q_RO73, Q_HE, Q_FT, Q_FK, Q_BL89, Q_RO90, Q_NE73_89, Q_X6_, Q_X16_, Q_X18_⟩ hb_ hon hoff
                refine ⟨_, rfl, fun K hK => ?_⟩
                have e75 : a.tmps[75]? = some (.int .i64 y.f0) := by rw [ha]; exact putSel_on (e := (2, 75, .int .i64 y.f0)) 2 rfl rfl (hon 2 (by kernel_rfl)) rfl
                replace ha := Aside0.mk ha
                have HBr := Aside0.mk Q_HBr
                have RO73 := Aside0.mk (Q_RO73 (hoff 17 (by kernel_rfl)))
                have HE := Aside0.mk Q_HE
                have FT := Aside0.mk (Q_FT (hoff 17 (by kernel_rfl)))
                have z1_ : 0 ≤ y.f0 := BY0.out.1
                have z2_ : y.f0 < 256 := BY0.out.2
                refine value_ (w1 := w') (v := .int .u8 y.f0) ?cA ?cB ?_ ?_
                case cA => rfl
                case cB => rfl
                · go_simp
                  (try simp only [i64_w])
                  (try exact IntWalk.u8_in _ (by omega))
                  try rfl
                refine hK.out _ _ ⟨gk_, g89_, v90_, m6_, m16_, m18_, (by rw [ha.out]; exact putSel_upk 3 hb_ rfl rfl rfl), Q_HBr, Q_RO73, Q_HE, Q_FT, Q_FK, fun h0_ => absurd ((hoff 16 (by kernel_rfl)).symm.trans h0_) (by decide), fun h0_ => absurd ((hoff 17 (by kernel_rfl)).symm.trans h0_) (by decide), fun h0_ _ => absurd ((hoff 16 (by kernel_rfl)).symm.trans h0_) (by decide), Q_X6_, fun h0_ => absurd ((hoff 16 (by kernel_rfl)).symm.trans h0_) (by decide), fun h0_ => absurd ((hoff 18 (by kernel_rfl)).symm.trans h0_) (by decide)⟩
              refine steps_cons ?_ ?_
              · rintro b a w' ⟨gk_, g89_, v90_, m6_, m16_, m18_, ha, Q_HBr, Q_RO73, Q_HE, Q_FT, Q_FK, Q_BL89, Q_RO90, Q_NE73_89, Q_X6_, Q_X16_, Q_X18_⟩ hb_ hon hoff
                refine ⟨_, rfl, fun K hK => ?_⟩
                have e4 : a.tmps[4]? = some (.pointer (some ⟨cb, 0, none⟩)) := by rw [ha]; exact (putSel_off rfl).trans rfl
                replace ha := Aside0.mk ha
                have HBr := Aside0.mk Q_HBr
                have RO73 := Aside0.mk (Q_RO73 (hoff 17 (by kernel_rfl)))
                have HE := Aside0.mk Q_HE
                have FT := Aside0.mk (Q_FT (hoff 17 (by kernel_rfl)))
                refine value_ (w1 := w') (v := .pointer (some ⟨cb, 0, none⟩)) ?cA ?cB ?_ ?_
                case cA => rfl
                case cB => rfl
                · go_simp
                  (try simp only [i64_w])
                  (try exact IntWalk.u8_in _ (by omega))
                  try rfl
                refine hK.out _ _ ⟨gk_, g89_, v90_, m6_, m16_, m18_, (by rw [ha.out]; exact putSel_upk 4 hb_ rfl rfl rfl), Q_HBr, Q_RO73, Q_HE, Q_FT, fun h0_ _ => absurd ((hoff 6 (by kernel_rfl)).symm.trans h0_) (by decide), fun h0_ => absurd ((hoff 16 (by kernel_rfl)).symm.trans h0_) (by decide), fun h0_ => absurd ((hoff 17 (by kernel_rfl)).symm.trans h0_) (by decide), fun h0_ _ => absurd ((hoff 16 (by kernel_rfl)).symm.trans h0_) (by decide), fun h0_ => absurd ((hoff 6 (by kernel_rfl)).symm.trans h0_) (by decide), fun h0_ => absurd ((hoff 16 (by kernel_rfl)).symm.trans h0_) (by decide), fun h0_ => absurd ((hoff 18 (by kernel_rfl)).symm.trans h0_) (by decide)⟩
              refine steps_cons ?_ ?_
              · rintro b a w' ⟨gk_, g89_, v90_, m6_, m16_, m18_, ha, Q_HBr, Q_RO73, Q_HE, Q_FT, Q_FK, Q_BL89, Q_RO90, Q_NE73_89, Q_X6_, Q_X16_, Q_X18_⟩ hb_ hon hoff
                refine ⟨_, rfl, fun K hK => ?_⟩
                have e77 : a.tmps[77]? = some (.pointer (some ⟨cb, 0, none⟩)) := by rw [ha]; exact putSel_on (e := (4, 77, .pointer (some ⟨cb, 0, none⟩))) 4 rfl rfl (hon 4 (by kernel_rfl)) rfl
                replace ha := Aside0.mk ha
                have HBr := Aside0.mk Q_HBr
                have RO73 := Aside0.mk (Q_RO73 (hoff 17 (by kernel_rfl)))
                have HE := Aside0.mk Q_HE
                have FT := Aside0.mk (Q_FT (hoff 17 (by kernel_rfl)))
                have z0_ : w'.cell? ⟨cb, 0, none⟩ = some (.int .i64 x.f0.f0) := (blk_cell (HE.out.2.1) 0).trans rfl
                refine value_ (w1 := w') (v := .int .i64 x.f0.f0) ?cA ?cB ?_ ?_
                case cA => rfl
                case cB => rfl
                · go_simp
                  (try simp only [i64_w])
                  (try exact IntWalk.u8_in _ (by omega))
                  try rfl
                refine hK.out _ _ ⟨gk_, g89_, v90_, m6_, m16_, m18_, (by rw [ha.out]; exact putSel_upk 5 hb_ rfl rfl rfl), Q_HBr, Q_RO73, Q_HE, Q_FT, fun h0_ _ => absurd ((hoff 6 (by kernel_rfl)).symm.trans h0_) (by decide), fun h0_ => absurd ((hoff 16 (by kernel_rfl)).symm.trans h0_) (by decide), fun h0_ => absurd ((hoff 17 (by kernel_rfl)).symm.trans h0_) (by decide), fun h0_ _ => absurd ((hoff 16 (by kernel_rfl)).symm.trans h0_) (by decide), fun h0_ => absurd ((hoff 6 (by kernel_rfl)).symm.trans h0_) (by decide), fun h0_ => absurd ((hoff 16 (by kernel_rfl)).symm.trans h0_) (by decide), fun h0_ => absurd ((hoff 18 (by kernel_rfl)).symm.trans h0_) (by decide)⟩
              refine steps_cons ?_ ?_
              · rintro b a w' ⟨gk_, g89_, v90_, m6_, m16_, m18_, ha, Q_HBr, Q_RO73, Q_HE, Q_FT, Q_FK, Q_BL89, Q_RO90, Q_NE73_89, Q_X6_, Q_X16_, Q_X18_⟩ hb_ hon hoff
                refine ⟨_, rfl, fun K hK => ?_⟩
                have e78 : a.tmps[78]? = some (.int .i64 x.f0.f0) := by rw [ha]; exact putSel_on (e := (5, 78, .int .i64 x.f0.f0)) 5 rfl rfl (hon 5 (by kernel_rfl)) rfl
                replace ha := Aside0.mk ha
                have HBr := Aside0.mk Q_HBr
                have RO73 := Aside0.mk (Q_RO73 (hoff 17 (by kernel_rfl)))
                have HE := Aside0.mk Q_HE
                have FT := Aside0.mk (Q_FT (hoff 17 (by kernel_rfl)))
                refine goes_ Tryd.func25 (by kernel_rfl) rfl #[.int .i64 x.f0.f0] (by rfl) rfl rfl (by first | (simp only [List.map_toArray, List.map_cons, List.map_nil, Act.eval, Array.getD_eq_getD_getElem?, Option.getD_some, e78]; done) | (simp only [List.map_toArray, List.map_cons, List.map_nil, Act.eval, Array.getD_eq_getD_getElem?, Option.getD_some, e78]; rfl)) ?_
                refine (kinds_c x.f0.f0 HST.out w').mono ?_
                rintro e w1 ⟨gz_, rfl, hK_, hb1⟩
                refine ⟨_, rfl, ?_⟩
                refine hK.out _ _ ⟨gz_, g89_, v90_, (.slice (some ⟨gz_, 0, none⟩) (kindsL x.f0.f0).length (kindsL x.f0.f0).length), m16_, m18_, (by rw [ha.out]; exact putSel_upk 6 hb_ rfl rfl rfl), below_step HBr.out hb1, fun _ => Kd.R_below RO73.out hb1, EW_below HE.out hb1, fun _ => blk_below hb1 FT.out, fun _ _ => hK_, fun h0_ => absurd ((hoff 16 (by kernel_rfl)).symm.trans h0_) (by decide), fun h0_ => absurd ((hoff 17 (by kernel_rfl)).symm.trans h0_) (by decide), fun h0_ _ => absurd ((hoff 16 (by kernel_rfl)).symm.trans h0_) (by decide), fun _ => rfl, fun h0_ => absurd ((hoff 16 (by kernel_rfl)).symm.trans h0_) (by decide), fun h0_ => absurd ((hoff 18 (by kernel_rfl)).symm.trans h0_) (by decide)⟩
              refine steps_cons ?_ ?_
              · rintro b a w' ⟨gk_, g89_, v90_, m6_, m16_, m18_, ha, Q_HBr, Q_RO73, Q_HE, Q_FT, Q_FK, Q_BL89, Q_RO90, Q_NE73_89, Q_X6_, Q_X16_, Q_X18_⟩ hb_ hon hoff
                refine ⟨_, rfl, fun K hK => ?_⟩
                have e7 : a.tmps[7]? = some (.pointer (some ⟨tb, 0, none⟩)) := by rw [ha]; exact (putSel_off rfl).trans rfl
                replace ha := Aside0.mk ha
                have HBr := Aside0.mk Q_HBr
                have RO73 := Aside0.mk (Q_RO73 (hoff 17 (by kernel_rfl)))
                have HE := Aside0.mk Q_HE
                have FT := Aside0.mk (Q_FT (hoff 17 (by kernel_rfl)))
                refine value_ (w1 := w') (v := .pointer (some ⟨tb, 1, none⟩)) ?cA ?cB ?_ ?_
                case cA => rfl
                case cB => rfl
                · go_simp
                  (try simp only [i64_w])
                  (try exact IntWalk.u8_in _ (by omega))
                  try rfl
                refine hK.out _ _ ⟨gk_, g89_, v90_, m6_, m16_, m18_, (by rw [ha.out]; exact putSel_upk 7 hb_ rfl rfl rfl), Q_HBr, Q_RO73, Q_HE, Q_FT, Q_FK, fun h0_ => absurd ((hoff 16 (by kernel_rfl)).symm.trans h0_) (by decide), fun h0_ => absurd ((hoff 17 (by kernel_rfl)).symm.trans h0_) (by decide), fun h0_ _ => absurd ((hoff 16 (by kernel_rfl)).symm.trans h0_) (by decide), Q_X6_, fun h0_ => absurd ((hoff 16 (by kernel_rfl)).symm.trans h0_) (by decide), fun h0_ => absurd ((hoff 18 (by kernel_rfl)).symm.trans h0_) (by decide)⟩
              refine steps_cons ?_ ?_
              · rintro b a w' ⟨gk_, g89_, v90_, m6_, m16_, m18_, ha, Q_HBr, Q_RO73, Q_HE, Q_FT, Q_FK, Q_BL89, Q_RO90, Q_NE73_89, Q_X6_, Q_X16_, Q_X18_⟩ hb_ hon hoff
                refine ⟨_, rfl, fun K hK => ?_⟩
                have e80 : a.tmps[80]? = some (.pointer (some ⟨tb, 1, none⟩)) := by rw [ha]; exact putSel_on (e := (7, 80, .pointer (some ⟨tb, 1, none⟩))) 7 rfl rfl (hon 7 (by kernel_rfl)) rfl
                replace ha := Aside0.mk ha
                have HBr := Aside0.mk Q_HBr
                have RO73 := Aside0.mk (Q_RO73 (hoff 17 (by kernel_rfl)))
                have HE := Aside0.mk Q_HE
                have FT := Aside0.mk (Q_FT (hoff 17 (by kernel_rfl)))
                refine value_ (w1 := w') (v := .pointer (some ⟨tb, 1, none⟩)) ?cA ?cB ?_ ?_
                case cA => rfl
                case cB => rfl
                · go_simp
                  (try simp only [i64_w])
                  (try exact IntWalk.u8_in _ (by omega))
                  try rfl
                refine hK.out _ _ ⟨gk_, g89_, v90_, m6_, m16_, m18_, (by rw [ha.out]; exact putSel_upk 8 hb_ rfl rfl rfl), Q_HBr, Q_RO73, Q_HE, Q_FT, Q_FK, fun h0_ => absurd ((hoff 16 (by kernel_rfl)).symm.trans h0_) (by decide), fun h0_ => absurd ((hoff 17 (by kernel_rfl)).symm.trans h0_) (by decide), fun h0_ _ => absurd ((hoff 16 (by kernel_rfl)).symm.trans h0_) (by decide), Q_X6_, fun h0_ => absurd ((hoff 16 (by kernel_rfl)).symm.trans h0_) (by decide), fun h0_ => absurd ((hoff 18 (by kernel_rfl)).symm.trans h0_) (by decide)⟩
              refine steps_cons ?_ ?_
              · rintro b a w' ⟨gk_, g89_, v90_, m6_, m16_, m18_, ha, Q_HBr, Q_RO73, Q_HE, Q_FT, Q_FK, Q_BL89, Q_RO90, Q_NE73_89, Q_X6_, Q_X16_, Q_X18_⟩ hb_ hon hoff
                refine ⟨_, rfl, fun K hK => ?_⟩
                have e81 : a.tmps[81]? = some (.pointer (some ⟨tb, 1, none⟩)) := by rw [ha]; exact putSel_on (e := (8, 81, .pointer (some ⟨tb, 1, none⟩))) 8 rfl rfl (hon 8 (by kernel_rfl)) rfl
                replace ha := Aside0.mk ha
                have HBr := Aside0.mk Q_HBr
                have RO73 := Aside0.mk (Q_RO73 (hoff 17 (by kernel_rfl)))
                have HE := Aside0.mk Q_HE
                have FT := Aside0.mk (Q_FT (hoff 17 (by kernel_rfl)))
                have z1_ : w'.cell? ⟨tb, 1, none⟩ = some (.int .i64 y.f1.f0) := (blk_cell (FT.out) 1).trans rfl
                refine value_ (w1 := w') (v := .int .i64 y.f1.f0) ?cA ?cB ?_ ?_
                case cA => rfl
                case cB => rfl
                · go_simp
                  (try simp only [i64_w])
                  (try exact IntWalk.u8_in _ (by omega))
                  try rfl
                refine hK.out _ _ ⟨gk_, g89_, v90_, m6_, m16_, m18_, (by rw [ha.out]; exact putSel_upk 9 hb_ rfl rfl rfl), Q_HBr, Q_RO73, Q_HE, Q_FT, Q_FK, fun h0_ => absurd ((hoff 16 (by kernel_rfl)).symm.trans h0_) (by decide), fun h0_ => absurd ((hoff 17 (by kernel_rfl)).symm.trans h0_) (by decide), fun h0_ _ => absurd ((hoff 16 (by kernel_rfl)).symm.trans h0_) (by decide), Q_X6_, fun h0_ => absurd ((hoff 16 (by kernel_rfl)).symm.trans h0_) (by decide), fun h0_ => absurd ((hoff 18 (by kernel_rfl)).symm.trans h0_) (by decide)⟩
              refine steps_cons ?_ ?_
              · rintro b a w' ⟨gk_, g89_, v90_, m6_, m16_, m18_, ha, Q_HBr, Q_RO73, Q_HE, Q_FT, Q_FK, Q_BL89, Q_RO90, Q_NE73_89, Q_X6_, Q_X16_, Q_X18_⟩ hb_ hon hoff
                refine ⟨_, rfl, fun K hK => ?_⟩
                have e79 : a.tmps[79]? = some (m6_) := by rw [ha]; exact putSel_on (e := (6, 79, m6_)) 6 rfl rfl (hon 6 (by kernel_rfl)) rfl
                rw [Q_X6_ (hon 6 (by kernel_rfl))] at e79
                have e82 : a.tmps[82]? = some (.int .i64 y.f1.f0) := by rw [ha]; exact putSel_on (e := (9, 82, .int .i64 y.f1.f0)) 9 rfl rfl (hon 9 (by kernel_rfl)) rfl
                replace ha := Aside0.mk ha
                have HBr := Aside0.mk Q_HBr
                have RO73 := Aside0.mk (Q_RO73 (hoff 17 (by kernel_rfl)))
                have HE := Aside0.mk Q_HE
                have FT := Aside0.mk (Q_FT (hoff 17 (by kernel_rfl)))
                have FK := Aside0.mk (Q_FK (hon 6 (by kernel_rfl)) (hoff 17 (by kernel_rfl)))
                refine goes_ Tryd.func24 (by kernel_rfl) rfl #[.slice (some ⟨gk_, 0, none⟩) (kindsL x.f0.f0).length (kindsL x.f0.f0).length, .int .i64 y.f1.f0] (by rfl) rfl rfl (by first | (simp only [List.map_toArray, List.map_cons, List.map_nil, Act.eval, Array.getD_eq_getD_getElem?, Option.getD_some, e79, e82]; done) | (simp only [List.map_toArray, List.map_cons, List.map_nil, Act.eval, Array.getD_eq_getD_getElem?, Option.getD_some, e79, e82]; rfl)) ?_
                refine (index_c (some ⟨gk_, 0, none⟩) (kindsL x.f0.f0).length (kindsL x.f0.f0) y.f1.f0 w' FK.out).mono ?_
                rintro e w1 ⟨rfl, hw_⟩
                refine ⟨_, rfl, ?_⟩
                refine hK.out _ _ ⟨gk_, g89_, v90_, m6_, m16_, m18_, (by rw [ha.out]; exact putSel_upk 10 hb_ rfl rfl rfl), below_step HBr.out (by rw [hw_]; exact Below.refl _ _), fun _ => Kd.R_below RO73.out (by rw [hw_]; exact Below.refl _ _), EW_below HE.out (by rw [hw_]; exact Below.refl _ _), fun _ => blk_below (by rw [hw_]; exact Below.refl _ _) FT.out, fun _ _ => Kd.C_below FK.out (by rw [hw_]; exact Below.refl _ _), fun h0_ => absurd ((hoff 16 (by kernel_rfl)).symm.trans h0_) (by decide), fun h0_ => absurd ((hoff 17 (by kernel_rfl)).symm.trans h0_) (by decide), fun h0_ _ => absurd ((hoff 16 (by kernel_rfl)).symm.trans h0_) (by decide), Q_X6_, fun h0_ => absurd ((hoff 16 (by kernel_rfl)).symm.trans h0_) (by decide), fun h0_ => absurd ((hoff 18 (by kernel_rfl)).symm.trans h0_) (by decide)⟩
              refine steps_cons ?_ ?_
              · rintro b a w' ⟨gk_, g89_, v90_, m6_, m16_, m18_, ha, Q_HBr, Q_RO73, Q_HE, Q_FT, Q_FK, Q_BL89, Q_RO90, Q_NE73_89, Q_X6_, Q_X16_, Q_X18_⟩ hb_ hon hoff
                refine ⟨_, rfl, fun K hK => ?_⟩
                have e83 : a.tmps[83]? = some (.int .i64 (idxI (kindsL x.f0.f0) y.f1.f0)) := by rw [ha]; exact putSel_on (e := (10, 83, .int .i64 (idxI (kindsL x.f0.f0) y.f1.f0))) 10 rfl rfl (hon 10 (by kernel_rfl)) rfl
                replace ha := Aside0.mk ha
                have HBr := Aside0.mk Q_HBr
                have RO73 := Aside0.mk (Q_RO73 (hoff 17 (by kernel_rfl)))
                have HE := Aside0.mk Q_HE
                have FT := Aside0.mk (Q_FT (hoff 17 (by kernel_rfl)))
                have FK := Aside0.mk (Q_FK (hon 6 (by kernel_rfl)) (hoff 17 (by kernel_rfl)))
                have z1_ : 0 ≤ idxI (kindsL x.f0.f0) y.f1.f0 := BYI.out.1
                have z2_ : idxI (kindsL x.f0.f0) y.f1.f0 < 256 := BYI.out.2
                refine value_ (w1 := w') (v := .int .u8 (idxI (kindsL x.f0.f0) y.f1.f0)) ?cA ?cB ?_ ?_
                case cA => rfl
                case cB => rfl
                · go_simp
                  (try simp only [i64_w])
                  (try exact IntWalk.u8_in _ (by omega))
                  try rfl
                refine hK.out _ _ ⟨gk_, g89_, v90_, m6_, m16_, m18_, (by rw [ha.out]; exact putSel_upk 11 hb_ rfl rfl rfl), Q_HBr, Q_RO73, Q_HE, Q_FT, Q_FK, fun h0_ => absurd ((hoff 16 (by kernel_rfl)).symm.trans h0_) (by decide), fun h0_ => absurd ((hoff 17 (by kernel_rfl)).symm.trans h0_) (by decide), fun h0_ _ => absurd ((hoff 16 (by kernel_rfl)).symm.trans h0_) (by decide), Q_X6_, fun h0_ => absurd ((hoff 16 (by kernel_rfl)).symm.trans h0_) (by decide), fun h0_ => absurd ((hoff 18 (by kernel_rfl)).symm.trans h0_) (by decide)⟩
              refine steps_cons ?_ ?_
              · rintro b a w' ⟨gk_, g89_, v90_, m6_, m16_, m18_, ha, Q_HBr, Q_RO73, Q_HE, Q_FT, Q_FK, Q_BL89, Q_RO90, Q_NE73_89, Q_X6_, Q_X16_, Q_X18_⟩ hb_ hon hoff
                refine ⟨_, rfl, fun K hK => ?_⟩
                have e8 : a.tmps[8]? = some (.int .i64 (argX y.f1)) := by rw [ha]; exact (putSel_off rfl).trans rfl
                replace ha := Aside0.mk ha
                have HBr := Aside0.mk Q_HBr
                have RO73 := Aside0.mk (Q_RO73 (hoff 17 (by kernel_rfl)))
                have HE := Aside0.mk Q_HE
                have FT := Aside0.mk (Q_FT (hoff 17 (by kernel_rfl)))
                refine value_ (w1 := w') (v := .int .i64 (argX y.f1)) ?cA ?cB ?_ ?_
                case cA => rfl
                case cB => rfl
                · go_simp
                  (try simp only [i64_w])
                  (try exact IntWalk.u8_in _ (by omega))
                  try rfl
                refine hK.out _ _ ⟨gk_, g89_, v90_, m6_, m16_, m18_, (by rw [ha.out]; exact putSel_upk 12 hb_ rfl rfl rfl), Q_HBr, Q_RO73, Q_HE, Q_FT, Q_FK, fun h0_ => absurd ((hoff 16 (by kernel_rfl)).symm.trans h0_) (by decide), fun h0_ => absurd ((hoff 17 (by kernel_rfl)).symm.trans h0_) (by decide), fun h0_ _ => absurd ((hoff 16 (by kernel_rfl)).symm.trans h0_) (by decide), Q_X6_, fun h0_ => absurd ((hoff 16 (by kernel_rfl)).symm.trans h0_) (by decide), fun h0_ => absurd ((hoff 18 (by kernel_rfl)).symm.trans h0_) (by decide)⟩
              refine steps_cons ?_ ?_
              · rintro b a w' ⟨gk_, g89_, v90_, m6_, m16_, m18_, ha, Q_HBr, Q_RO73, Q_HE, Q_FT, Q_FK, Q_BL89, Q_RO90, Q_NE73_89, Q_X6_, Q_X16_, Q_X18_⟩ hb_ hon hoff
                refine ⟨_, rfl, fun K hK => ?_⟩
                have e85 : a.tmps[85]? = some (.int .i64 (argX y.f1)) := by rw [ha]; exact putSel_on (e := (12, 85, .int .i64 (argX y.f1))) 12 rfl rfl (hon 12 (by kernel_rfl)) rfl
                replace ha := Aside0.mk ha
                have HBr := Aside0.mk Q_HBr
                have RO73 := Aside0.mk (Q_RO73 (hoff 17 (by kernel_rfl)))
                have HE := Aside0.mk Q_HE
                have FT := Aside0.mk (Q_FT (hoff 17 (by kernel_rfl)))
                have z1_ : 0 ≤ argX y.f1 := BYX.out.1
                have z2_ : argX y.f1 < 256 := BYX.out.2
                refine value_ (w1 := w') (v := .int .u8 (argX y.f1)) ?cA ?cB ?_ ?_
                case cA => rfl
                case cB => rfl
                · go_simp
                  (try simp only [i64_w])
                  (try exact IntWalk.u8_in _ (by omega))
                  try rfl
                refine hK.out _ _ ⟨gk_, g89_, v90_, m6_, m16_, m18_, (by rw [ha.out]; exact putSel_upk 13 hb_ rfl rfl rfl), Q_HBr, Q_RO73, Q_HE, Q_FT, Q_FK, fun h0_ => absurd ((hoff 16 (by kernel_rfl)).symm.trans h0_) (by decide), fun h0_ => absurd ((hoff 17 (by kernel_rfl)).symm.trans h0_) (by decide), fun h0_ _ => absurd ((hoff 16 (by kernel_rfl)).symm.trans h0_) (by decide), Q_X6_, fun h0_ => absurd ((hoff 16 (by kernel_rfl)).symm.trans h0_) (by decide), fun h0_ => absurd ((hoff 18 (by kernel_rfl)).symm.trans h0_) (by decide)⟩
              refine steps_cons ?_ ?_
              · rintro b a w' ⟨gk_, g89_, v90_, m6_, m16_, m18_, ha, Q_HBr, Q_RO73, Q_HE, Q_FT, Q_FK, Q_BL89, Q_RO90, Q_NE73_89, Q_X6_, Q_X16_, Q_X18_⟩ hb_ hon hoff
                refine ⟨_, rfl, fun K hK => ?_⟩
                have e9 : a.tmps[9]? = some (.int .i64 (argY y.f1)) := by rw [ha]; exact (putSel_off rfl).trans rfl
                replace ha := Aside0.mk ha
                have HBr := Aside0.mk Q_HBr
                have RO73 := Aside0.mk (Q_RO73 (hoff 17 (by kernel_rfl)))
                have HE := Aside0.mk Q_HE
                have FT := Aside0.mk (Q_FT (hoff 17 (by kernel_rfl)))
                refine value_ (w1 := w') (v := .int .i64 (argY y.f1)) ?cA ?cB ?_ ?_
                case cA => rfl
                case cB => rfl
                · go_simp
                  (try simp only [i64_w])
                  (try exact IntWalk.u8_in _ (by omega))
                  try rfl
                refine hK.out _ _ ⟨gk_, g89_, v90_, m6_, m16_, m18_, (by rw [ha.out]; exact putSel_upk 14 hb_ rfl rfl rfl), Q_HBr, Q_RO73, Q_HE, Q_FT, Q_FK, fun h0_ => absurd ((hoff 16 (by kernel_rfl)).symm.trans h0_) (by decide), fun h0_ => absurd ((hoff 17 (by kernel_rfl)).symm.trans h0_) (by decide), fun h0_ _ => absurd ((hoff 16 (by kernel_rfl)).symm.trans h0_) (by decide), Q_X6_, fun h0_ => absurd ((hoff 16 (by kernel_rfl)).symm.trans h0_) (by decide), fun h0_ => absurd ((hoff 18 (by kernel_rfl)).symm.trans h0_) (by decide)⟩
              refine steps_cons ?_ ?_
              · rintro b a w' ⟨gk_, g89_, v90_, m6_, m16_, m18_, ha, Q_HBr, Q_RO73, Q_HE, Q_FT, Q_FK, Q_BL89, Q_RO90, Q_NE73_89, Q_X6_, Q_X16_, Q_X18_⟩ hb_ hon hoff
                refine ⟨_, rfl, fun K hK => ?_⟩
                have e87 : a.tmps[87]? = some (.int .i64 (argY y.f1)) := by rw [ha]; exact putSel_on (e := (14, 87, .int .i64 (argY y.f1))) 14 rfl rfl (hon 14 (by kernel_rfl)) rfl
                replace ha := Aside0.mk ha
                have HBr := Aside0.mk Q_HBr
                have RO73 := Aside0.mk (Q_RO73 (hoff 17 (by kernel_rfl)))
                have HE := Aside0.mk Q_HE
                have FT := Aside0.mk (Q_FT (hoff 17 (by kernel_rfl)))
                have z1_ : 0 ≤ argY y.f1 := BYY.out.1
                have z2_ : argY y.f1 < 256 := BYY.out.2
                refine value_ (w1 := w') (v := .int .u8 (argY y.f1)) ?cA ?cB ?_ ?_
                case cA => rfl
                case cB => rfl
                · go_simp
                  (try simp only [i64_w])
                  (try exact IntWalk.u8_in _ (by omega))
                  try rfl
                refine hK.out _ _ ⟨gk_, g89_, v90_, m6_, m16_, m18_, (by rw [ha.out]; exact putSel_upk 15 hb_ rfl rfl rfl), Q_HBr, Q_RO73, Q_HE, Q_FT, Q_FK, fun h0_ => absurd ((hoff 16 (by kernel_rfl)).symm.trans h0_) (by decide), fun h0_ => absurd ((hoff 17 (by kernel_rfl)).symm.trans h0_) (by decide), fun h0_ _ => absurd ((hoff 16 (by kernel_rfl)).symm.trans h0_) (by decide), Q_X6_, fun h0_ => absurd ((hoff 16 (by kernel_rfl)).symm.trans h0_) (by decide), fun h0_ => absurd ((hoff 18 (by kernel_rfl)).symm.trans h0_) (by decide)⟩
              refine steps_cons ?_ ?_
              · rintro b a w' ⟨gk_, g89_, v90_, m6_, m16_, m18_, ha, Q_HBr, Q_RO73, Q_HE, Q_FT, Q_FK, Q_BL89, Q_RO90, Q_NE73_89, Q_X6_, Q_X16_, Q_X18_⟩ hb_ hon hoff
                refine ⟨_, rfl, fun K hK => ?_⟩
                have e76 : a.tmps[76]? = some (.int .u8 y.f0) := by rw [ha]; exact putSel_on (e := (3, 76, .int .u8 y.f0)) 3 rfl rfl (hon 3 (by kernel_rfl)) rfl
                have e84 : a.tmps[84]? = some (.int .u8 (idxI (kindsL x.f0.f0) y.f1.f0)) := by rw [ha]; exact putSel_on (e := (11, 84, .int .u8 (idxI (kindsL x.f0.f0) y.f1.f0))) 11 rfl rfl (hon 11 (by kernel_rfl)) rfl
                have e86 : a.tmps[86]? = some (.int .u8 (argX y.f1)) := by rw [ha]; exact putSel_on (e := (13, 86, .int .u8 (argX y.f1))) 13 rfl rfl (hon 13 (by kernel_rfl)) rfl
                have e88 : a.tmps[88]? = some (.int .u8 (argY y.f1)) := by rw [ha]; exact putSel_on (e := (15, 88, .int .u8 (argY y.f1))) 15 rfl rfl (hon 15 (by kernel_rfl)) rfl
                replace ha := Aside0.mk ha
                have HBr := Aside0.mk Q_HBr
                have RO73 := Aside0.mk (Q_RO73 (hoff 17 (by kernel_rfl)))
                have HE := Aside0.mk Q_HE
                have FT := Aside0.mk (Q_FT (hoff 17 (by kernel_rfl)))
                have FK := Aside0.mk (Q_FK (hon 6 (by kernel_rfl)) (hoff 17 (by kernel_rfl)))
                refine event_step (w1 := w'.alloc (.cells #[.int .u8 y.f0, .int .u8 (idxI (kindsL x.f0.f0) y.f1.f0), .int .u8 (argX y.f1), .int .u8 (argY y.f1)] 5)) (v := .slice (some ⟨w'.heap.size, 0, none⟩) 4 4) (by rfl) ?_ ?_
                · go_simp
                  try rfl
                refine hK.out _ _ ⟨gk_, w'.heap.size, v90_, m6_, (.slice (some ⟨w'.heap.size, 0, none⟩) 4 4), m18_, (by rw [ha.out]; exact putSel_upk 16 hb_ rfl rfl rfl), below_step HBr.out (below_alloc (Below.refl w'.heap.size w') _), fun _ => Kd.R_below RO73.out (below_alloc (Below.refl w'.heap.size w') _), EW_below HE.out (below_alloc (Below.refl w'.heap.size w') _), fun _ => blk_below (below_alloc (Below.refl w'.heap.size w') _) FT.out, fun _ _ => Kd.C_below FK.out (below_alloc (Below.refl w'.heap.size w') _), fun _ => blk_new w' _, fun h0_ => absurd ((hoff 17 (by kernel_rfl)).symm.trans h0_) (by decide), fun _ h2_ => Kd.fresh_ok (Q_RO73 h2_) _ (Nat.le_refl _), Q_X6_, fun _ => rfl, fun h0_ => absurd ((hoff 18 (by kernel_rfl)).symm.trans h0_) (by decide)⟩
              refine steps_cons ?_ ?_
              · rintro b a w' ⟨gk_, g89_, v90_, m6_, m16_, m18_, ha, Q_HBr, Q_RO73, Q_HE, Q_FT, Q_FK, Q_BL89, Q_RO90, Q_NE73_89, Q_X6_, Q_X16_, Q_X18_⟩ hb_ hon hoff
                refine ⟨_, rfl, fun K hK => ?_⟩
                have e73 : a.tmps[73]? = some (v73_) := by rw [ha]; exact putSel_on (e := (0, 73, v73_)) 0 rfl rfl (hon 0 (by kernel_rfl)) rfl
                have e89 : a.tmps[89]? = some (m16_) := by rw [ha]; exact putSel_on (e := (16, 89, m16_)) 16 rfl rfl (hon 16 (by kernel_rfl)) rfl
                rw [Q_X16_ (hon 16 (by kernel_rfl))] at e89
                replace ha := Aside0.mk ha
                have HBr := Aside0.mk Q_HBr
                have RO73 := Aside0.mk (Q_RO73 hb_)
                have HE := Aside0.mk Q_HE
                have FT := Aside0.mk (Q_FT hb_)
                have FK := Aside0.mk (Q_FK (hon 6 (by kernel_rfl)) hb_)
                have BL89 := Aside0.mk (Q_BL89 (hon 16 (by kernel_rfl)))
                have NE73_89 := Aside0.mk (Q_NE73_89 (hon 16 (by kernel_rfl)) hb_)
                refine Kd.R_append_rows_step (Kd.int .u8) (w0 := w) w.heap.size (by rfl) (.tmp 73) (.tmp 89) 40 5 _ _ rfl Tryd.underlying40 info5 rfl (by decide) (by decide) v73_ (out) ([y.f0, idxI (kindsL x.f0.f0) y.f1.f0, argX y.f1, argY y.f1]) _ _ _ (fun _ => True) (fun _ => False) (by first | (go_simp; done) | (go_simp; rfl)) (by first | (go_simp; done) | (go_simp; rfl)) RO73.out (C_of_block (BL89.out) (Reps.cons (c := [_]) rfl rfl (Reps.cons (c := [_]) rfl rfl (Reps.cons (c := [_]) rfl rfl (Reps.cons (c := [_]) rfl rfl (Reps.none _ _))))) (by simp)) (fun _ _ h => h) (fun _ h => h.elim) (fun _ _ => trivial) HBr.out (below_size HBr.out) ((by have := HOL.out; simp only [List.length_cons, List.length_nil]; omega)) ?_
                intro va_ w1 hR_ hB_ hg_ hat_
                refine hK.out _ _ ⟨gk_, g89_, va_, m6_, m16_, m18_, (by rw [ha.out]; exact putSel_upk 17 hb_ rfl rfl rfl), hB_, fun h0_ => absurd ((up_self b 17).symm.trans h0_) (by decide), EW_grown HE.out RO73.out hg_ hB_, fun h0_ => absurd ((up_self b 17).symm.trans h0_) (by decide), fun _ h1_ => absurd ((up_self b 17).symm.trans h1_) (by decide), fun h_ => (hg_.block _ (blk_lt (Q_BL89 h_)) (Q_NE73_89 h_ hb_)).trans (Q_BL89 h_), fun _ => hR_, fun _ h1_ => absurd ((up_self b 17).symm.trans h1_) (by decide), Q_X6_, Q_X16_, fun h0_ => absurd ((hoff 18 (by kernel_rfl)).symm.trans h0_) (by decide)⟩
              refine steps_cons ?_ ?_
              · rintro b a w' ⟨gk_, g89_, v90_, m6_, m16_, m18_, ha, Q_HBr, Q_RO73, Q_HE, Q_FT, Q_FK, Q_BL89, Q_RO90, Q_NE73_89, Q_X6_, Q_X16_, Q_X18_⟩ hb_ hon hoff
                refine ⟨_, rfl, fun K hK => ?_⟩
                have e90 : a.tmps[90]? = some (v90_) := by rw [ha]; exact putSel_on (e := (17, 90, v90_)) 17 rfl rfl (hon 17 (by kernel_rfl)) rfl
                replace ha := Aside0.mk ha
                have HBr := Aside0.mk Q_HBr
                have HE := Aside0.mk Q_HE
                have BL89 := Aside0.mk (Q_BL89 (hon 16 (by kernel_rfl)))
                have RO90 := Aside0.mk (Q_RO90 (hon 17 (by kernel_rfl)))
                refine value_ (w1 := w') (v := v90_) ?cA ?cB ?_ ?_
                case cA => rfl
                case cB => rfl
                · go_simp
                  (try simp only [i64_w])
                  (try exact IntWalk.u8_in _ (by omega))
                  try rfl
                refine hK.out _ _ ⟨gk_, g89_, v90_, m6_, m16_, (v90_), (by rw [ha.out]; exact putSel_upk 18 hb_ rfl rfl rfl), Q_HBr, fun h0_ => absurd ((hon 17 (by kernel_rfl)).symm.trans h0_) (by decide), Q_HE, fun h0_ => absurd ((hon 17 (by kernel_rfl)).symm.trans h0_) (by decide), fun _ h1_ => absurd ((hon 17 (by kernel_rfl)).symm.trans h1_) (by decide), Q_BL89, Q_RO90, fun _ h1_ => absurd ((hon 17 (by kernel_rfl)).symm.trans h1_) (by decide), Q_X6_, Q_X16_, fun _ => rfl⟩
              exact steps_nil
            rintro b a w' hall ⟨gk_, g89_, v90_, m6_, m16_, m18_, ha, Q_HBr, Q_RO73, Q_HE, Q_FT, Q_FK, Q_BL89, Q_RO90, Q_NE73_89, Q_X6_, Q_X16_, Q_X18_⟩
            clear FT HBr HE RO73
            have hb0_ := hall 0 (by kernel_rfl)
            have hb1_ := hall 1 (by kernel_rfl)
            have hb2_ := hall 2 (by kernel_rfl)
            have hb3_ := hall 3 (by kernel_rfl)
            have hb4_ := hall 4 (by kernel_rfl)
            have hb5_ := hall 5 (by kernel_rfl)
            have hb6_ := hall 6 (by kernel_rfl)
            have hb7_ := hall 7 (by kernel_rfl)
            have hb8_ := hall 8 (by kernel_rfl)
            have hb9_ := hall 9 (by kernel_rfl)
            have hb10_ := hall 10 (by kernel_rfl)
            have hb11_ := hall 11 (by kernel_rfl)
            have hb12_ := hall 12 (by kernel_rfl)
            have hb13_ := hall 13 (by kernel_rfl)
            have hb14_ := hall 14 (by kernel_rfl)
            have hb15_ := hall 15 (by kernel_rfl)
            have hb16_ := hall 16 (by kernel_rfl)
            have hb17_ := hall 17 (by kernel_rfl)
            have hb18_ := hall 18 (by kernel_rfl)
            subst ha
            obtain rfl := Q_X6_ hb6_
            obtain rfl := Q_X16_ hb16_
            obtain rfl := Q_X18_ hb18_
            simp only [putSel, hb0_, hb1_, hb2_, hb3_, hb4_, hb5_, hb6_, hb7_, hb8_, hb9_, hb10_, hb11_, hb12_, hb13_, hb14_, hb15_, hb16_, hb17_, hb18_, if_true, Act.put, List.setIfInBounds_toArray, List.set_cons_zero, List.set_cons_succ]
            have HBr := Aside0.mk Q_HBr
            clear Q_HBr
            clear Q_RO73
            have HE := Aside0.mk Q_HE
            clear Q_HE
            clear Q_FT
            clear Q_FK
            have BL89 := Aside0.mk (Q_BL89 hb16_)
            clear Q_BL89
            have RO90 := Aside0.mk (Q_RO90 hb17_)
            clear Q_RO90
            clear Q_NE73_89
            clear hall hb0_ hb1_ hb2_ hb3_ hb4_ hb5_ hb6_ hb7_ hb8_ hb9_ hb10_ hb11_ hb12_ hb13_ hb14_ hb15_ hb16_ hb17_ hb18_
            go_wp2
            go_roundw
            case rel => exact ⟨k + 1, _, rfl, by omega, by go_num, HE.out, by rw [HNX.out, ← HOUT.out]; exact RO90.out, by rw [HSN.out, List.all_append, HS.out]; simp [HQB.out]⟩
            case measure => simp [intOf]; omega
        · obtain rfl : k = x.f1.length := by omega
          have hs := HS.out
          rw [List.take_length] at hs
          have hen : encB x = true := by unfold encB; rw [HQ.out, hs, decide_eq_true HSL.out]; rfl
          have HEN := Aside0.mk hen
          have hc6 := (blk_cell HE.out.1 6).trans rfl
          have HR := Aside0.mk hR
          clear hs HS hen hR
          go_wp2
          clear hc6
          go_loopw [5, 95] (fun o i wr => ∃ (j : Nat) (v73_ : Value), v73_ = o ∧ j ≤ x.f2.length ∧ i = .int .i64 j ∧ Below w.heap.size w wr ∧ Kd.R (Kd.int .u8) 5 wr w.heap.size (fun _ => True) v73_ (enL x x.f1.length j)) (fun _ i _ => x.f2.length - (intOf i).toNat)
          case atStart => exact ⟨0, _, rfl, Nat.zero_le _, rfl, HE.out.2.2, HR.out⟩
          case round =>
            clear HR HE
            obtain ⟨j, v73_, hv73, hj, rfl, hB, hR⟩ := hrel
            subst hv73
            have HB := Aside0.mk hB
            clear hB
            by_cases hlt : j < x.f2.length
            · obtain ⟨ad, eA, q0⟩ := Kd.at_int (Kd.C_below P6.out HB.out) (j : Int) (by omega) (by omega)
              simp only [Int.toNat_natCast] at q0
              cases eA
              obtain ⟨y, hy⟩ : ∃ y, y = rd x.f2 (j : Int) := ⟨_, rfl⟩
              rw [← hy] at q0
              have hsn := take_snoc x.f2 0 j hlt
              rw [show x.f2.getD j 0 = y by rw [hy, rd_getD]] at hsn
              have hnx := enL_pick x x.f1.length j y hsn
              have hmem : y ∈ x.f2 := by rw [hy, rd_getD]; simp [List.getD, hlt]
              have hyb := of_decide_eq_true (List.all_eq_true.1 HPG.out y hmem)
              obtain ⟨out, hout⟩ : ∃ out, out = enL x x.f1.length j := ⟨_, rfl⟩
              have hol : out.length ≤ 5000 := by rw [hout, enL_len x _ j (Nat.le_refl _) (by omega)]; omega
              rw [← hout] at hR
              have hy0 : 0 ≤ y := hyb.1
              have hy1 : y < 256 := by omega
              have hlk : (j : Int) < (x.f2.length : Int) := by omega
              have HNX := Aside0.mk hnx
              have HOUT := Aside0.mk hout
              have HR := Aside0.mk hR
              clear hnx hout hsn hmem hyb hR hy
              go_wp2_with ((with_reducible refine gate_builtin (b := .append) (xs := #[.tmp 99, .tmp 102]) rfl ?_); at_builtin; refine Kd.R_append (Kd.int .u8) (w0 := w) w.heap.size rfl (.tmp 99) (.tmp 102) 40 5 _ _ rfl Tryd.underlying40 info5 rfl (by decide) (by decide) v73_ out y [.int .u8 y] (fun _ => True) (fun _ => False) rfl (by first | (go_simp; done) | (go_simp; rfl)) rfl (fun _ hk => hk.elim) (fun _ _ => trivial) HR.out HB.out (below_size HB.out) (by omega) ?_; intro v3 w3 ho hb hg hat)
              go_roundw
              case rel => exact ⟨j + 1, _, rfl, by omega, by go_num, hb, by rw [HNX.out, ← HOUT.out]; exact ho⟩
              case measure => simp [intOf]; omega
            · obtain rfl : j = x.f2.length := by omega
              obtain ⟨A7, c7, rfl⟩ := Kd.R_slice hR
              have hS := Sl_R hR
              obtain ⟨A8, c8, e8, _, C8⟩ := hS
              injection e8 with e81 e82 e83
              subst e81
              have hcv := Kd.C_string (P := Tryd.prog) (c := c7) Tryd.underlying40 Tryd.underlying5 Tryd.underlying9 C8
              clear hR C8 e82 e83
              go_wp2
              go_ret2
              exact ⟨_, _, rfl, (fun _ => ⟨rfl, rfl⟩), (fun h => by rw [HEN.out] at h; cases h), HB.out⟩
    · have hn : encB x = false := by unfold encB; rw [decide_eq_false hsl]; simp
      have HN := Aside0.mk hn
      clear hn
      have hA1 := pw_cell_below HE.out.2.2 HA.out
      go_wp2_with fail
      refine (at_s _ aA _).mono ?_
      rintro e w3 ⟨v, rfl, hv, hb⟩
      have HV := Aside0.mk hv
      have HB := Aside0.mk (below_step HE.out.2.2 hb)
      clear hv hb hA1 hd0 hd1 hd2 hd3 hd4 hc5 HE
      go_wp2
      go_ret2
      exact ⟨_, _, rfl, (fun h => by rw [HN.out] at h; cases h), (fun _ => ⟨rfl, HV.out⟩), HB.out⟩
end Go.Proofs.YtlcfkdglknkbdaaDoor.Lo
