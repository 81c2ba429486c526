/- lots: the document's Encode. (Partly printed by mk_renc.py, gen_renc.py.) -/
import Derived.Test.YtlcfkdglknkbdaaDoorLoU
namespace Go.Proofs.YtlcfkdglknkbdaaDoor.Lo
open Go.RowKit Go.Proofs.YtlcfkdglknkbdaaDoorW.PrintWords Go.Proofs.YtlcfkdglknkbdaaDoorW.PrintLast Go.Proofs.YtlcfkdglknkbdaaDoorW.PrintMore Go.Proofs.YtlcfkdglknkbdaaDoor.X
set_option linter.unusedVariables false
set_option linter.unusedSimpArgs false

def renc16.T16 : Bool × List (List Nat × List Nat) := (true, [([], []), ([], []), ([1], [1]), ([], []), ([2, 3], [2, 3]), ([4], [4]), ([5], [5]), ([6], [6]), ([], []), ([8], [8]), ([9], [9]), ([], []), ([11], [11]), ([10, 12, 10], [10, 12]), ([13], [13]), ([], []), ([15], [15]), ([], []), ([17], [17]), ([7, 14, 16, 18], [7, 14, 16, 18]), ([0, 19, 13], [0, 19]), ([20, 20, 0, 1, 2, 3, 4, 5, 6, 7, 8, 9, 10, 11, 12, 13, 14, 15, 16, 17, 18, 19, 20], [0, 20])])
def renc16.B16 : List Nat := [0, 0, 2, 0, 14, 30, 62, 126, 0, 256, 768, 0, 2048, 7936, 16128, 0, 32768, 0, 131072, 524286, 1048575, 2097151]
theorem renc16.tab16 : rtab .any (opsOf Tryd.f15 16) = renc16.T16 := by kernel_rfl
theorem renc16.bits16 : waitsOk renc16.T16.2 renc16.B16 = true := by kernel_rfl
theorem ft_pack {w : World} {tb : Nat} {a b c d : Int} (h : w.heap[tb]? = some (.cells #[.int .i64 a, .int .i64 b, .int .i64 c, .int .i64 d] 35 (0, 0))) : ∃ kk t1_ t2_ t3_ : Int, kk = a ∧ w.heap[tb]? = some (.cells #[.int .i64 kk, .int .i64 t1_, .int .i64 t2_, .int .i64 t3_] 35 (0, 0)) := ⟨a, b, c, d, rfl, h⟩
theorem w_of {w wr : World} {x : S28} {A5 : Option Addr} {c5 : Nat} {A6 : Option Addr} {c6 cb : Nat} (h : EW w wr x A5 c5 A6 c6 cb) : ∃ z, z = wr ∧ EW w z x A5 c5 A6 c6 cb := ⟨wr, rfl, h⟩
theorem arg_cases (st k key val tall : Int) (hv : 0 ≤ val) (h : argB st ⟨k, key, val, tall⟩ = true) :
    (k = 1 ∧ val / 256 ≤ 255 ∧ argX ⟨k, key, val, tall⟩ = val / 256 ∧ argY ⟨k, key, val, tall⟩ = val % 256) ∨ (k = 4 ∧ val / 256 ≤ 255 ∧ argX ⟨k, key, val, tall⟩ = val / 256 ∧ argY ⟨k, key, val, tall⟩ = val % 256)
      ∨ ((k ≠ 1 ∧ k ≠ 4 ∧ k ≠ 6) ∧ (key ≤ 255 ∧ val ≤ 255) ∧ argX ⟨k, key, val, tall⟩ = key ∧ argY ⟨k, key, val, tall⟩ = val) ∨ (k = 6 ∧ (st ≠ 5 ∧ key ≤ 255 ∧ val ≤ 255) ∧ argX ⟨k, key, val, tall⟩ = key ∧ argY ⟨k, key, val, tall⟩ = val)
      ∨ (k = 6 ∧ (st = 5 ∧ tall = val % 3 + 1 ∧ key ≤ 255 ∧ val ≤ 255) ∧ argX ⟨k, key, val, tall⟩ = key ∧ argY ⟨k, key, val, tall⟩ = val) := by
  have h1 := of_decide_eq_true h
  by_cases e1 : k = 1
  · left
    subst e1
    simp [argX, argY] at h1 ⊢
    omega
  · right
    by_cases e4 : k = 4
    · left
      subst e4
      simp [argX, argY] at h1 ⊢
      omega
    · right
      by_cases e6 : k = 6
      · right
        subst e6
        simp [argX, argY] at h1 ⊢
        omega
      · left
        simp [argX, argY, e1, e4, e6] at h1 ⊢
        omega
theorem kind_mem {st : Int} {o : S35} (hs : 1 ≤ st ∧ st ≤ 5) (h : fits st o = true) : o.f0 ∈ kindsL st := by
  have hk := (kind_idx hs h).2
  rcases hk with ⟨rfl, h0 | h0 | h0⟩ | ⟨rfl, h0 | h0⟩ | ⟨rfl | rfl | rfl, h0 | h0 | h0⟩ <;> rw [h0] <;> decide
set_option maxHeartbeats 8000000 in
set_option maxRecDepth 100000 in
theorem renc_c {u : Value} {x : S28} {w : World} (hu : SV w x u) :
    Calls Tryd.prog 15 #[u] w fun e w' => ∃ s v, e = .returned (.tuple #[.string s, v]) ∧ (encB x = true → v = .bool true ∧ s = encS x) ∧ (encB x = false → s = ⟨#[]⟩ ∧ v = .bool false) ∧ Below w.heap.size w w' := by
  obtain ⟨A5, c5, A6, c6, rfl, l5, p5, l6, p6⟩ := hu
  have h1 := Tryd.underlying24
  have h2 := Tryd.underlying28
  have h3 := Tryd.underlying37
  have h4 := Tryd.underlying35
  have m5 := Kd.C_max p5
  have m6 := Kd.C_max p6
  have hX0 := blk_new w (.cells (scells x A5 c5 A6 c6) 28)
  have hb0 := below_alloc (Below.refl w.heap.size w) (.cells (scells x A5 c5 A6 c6) 28)
  have hSV : SV (w.alloc (.cells (scells x A5 c5 A6 c6) 28)) x (.agg (scells x A5 c5 A6 c6)) := SV_below ⟨A5, c5, A6, c6, rfl, l5, p5, l6, p6⟩ hb0
  have HSV := Aside0.mk hSV
  have HB := Aside0.mk hb0
  have HX := Aside0.mk hX0
  clear hSV hb0 hX0 l5 l6
  have P5 := Aside0.mk p5
  clear p5
  have P6 := Aside0.mk p6
  clear p6
  go_enter Tryd.func15, Tryd.ntmps15
  go_wp2_with fail
  refine (rgood_c HSV.out).mono ?_
  rintro e w1 ⟨rfl, hb⟩
  replace HB := Aside0.mk (below_step HB.out hb)
  replace HX := Aside0.mk (blk_below hb HX.out)
  clear hb HSV
  have hx0 := (blk_cell HX.out 0).trans rfl
  have hx1 := (blk_cell HX.out 1).trans rfl
  have hx2 := (blk_cell HX.out 2).trans rfl
  have hx3 := (blk_cell HX.out 3).trans rfl
  have hx4 := (blk_cell HX.out 4).trans rfl
  cases hq : goodB x
  · have hn : encB x = false := by unfold encB; rw [hq]; rfl
    have HN := Aside0.mk hn
    clear hn hq
    go_wp2
    go_ret2
    exact ⟨_, _, rfl, (fun h => by rw [HN.out] at h; cases h), (fun _ => ⟨rfl, rfl⟩), HB.out⟩
  · obtain ⟨hok, n5, n6, hT, hP⟩ := good_conf hq
    obtain ⟨⟨s1, s2⟩, ⟨e1, e2⟩, ⟨t1, t2⟩, ⟨o1, o2⟩, ⟨r1, r2⟩⟩ := okConf_b hok
    have HQ := Aside0.mk hq
    have HTG := Aside0.mk hT
    have HPG := Aside0.mk hP
    clear hq hok hT hP
    by_cases hsl : x.f0.f3 < 256
    · have k0 : wrap64 (x.f0.f0 - 1) = x.f0.f0 - 1 := by unfold wrap64; omega
      have k1 : wrap64 (x.f0.f1 - 1) = x.f0.f1 - 1 := by unfold wrap64; omega
      have k2 : wrap64 (x.f0.f2 - 1) = x.f0.f2 - 1 := by unfold wrap64; omega
      have k4 : wrap64 (x.f0.f4 - 1) = x.f0.f4 - 1 := by unfold wrap64; omega
      have hb := below_alloc (Below.refl w1.heap.size w1) (.cells (ccells x.f0) 24)
      have hE : EW w (w1.alloc (.cells (ccells x.f0) 24)) x A5 c5 A6 c6 w1.heap.size := ⟨blk_below hb HX.out, blk_new _ _, below_step HB.out hb⟩
      have hsz : (w1.alloc (.cells (ccells x.f0) 24)).heap.size = w1.heap.size + 1 := by unfold World.alloc; exact Array.size_push _
      have hy5 := (blk_cell hE.1 5).trans rfl
      have hb1 := below_alloc (Below.refl (w1.alloc (.cells (ccells x.f0) 24)).heap.size (w1.alloc (.cells (ccells x.f0) 24))) (.cells #[.int .u8 (x.f0.f0 - 1), .int .u8 (x.f0.f1 - 1), .int .u8 (x.f0.f2 - 1), .int .u8 x.f0.f3, .int .u8 (x.f0.f4 - 1), .int .u8 x.f1.length] 5)
      have hE2 := EW_below hE hb1
      have hR := R_lit_alloc (Kd.int .u8) 5 (base := w.heap.size) (w1.alloc (.cells (ccells x.f0) 24)) hE.2.2.size (xs := enL x 0 0) (inner := [.int .u8 (x.f0.f0 - 1), .int .u8 (x.f0.f1 - 1), .int .u8 (x.f0.f2 - 1), .int .u8 x.f0.f3, .int .u8 (x.f0.f4 - 1), .int .u8 x.f1.length]) (Reps.cons (c := [_]) rfl rfl (Reps.cons (c := [_]) rfl rfl (Reps.cons (c := [_]) rfl rfl (Reps.cons (c := [_]) rfl rfl (Reps.cons (c := [_]) rfl rfl (Reps.cons (c := [_]) rfl rfl (Reps.none _ _))))))) (by rw [enL_len x 0 0 (by omega) (by omega)]; decide)
      rw [hsz] at hR
      have HST : Aside0 (1 ≤ x.f0.f0 ∧ x.f0.f0 ≤ 5) := Aside0.mk ⟨s1, s2⟩
      have HTH : Aside0 (1 ≤ x.f0.f2 ∧ x.f0.f2 ≤ 6) := Aside0.mk ⟨t1, t2⟩
      have HE := Aside0.mk hE2
      have HR := Aside0.mk hR
      clear hb hE2 hR hb1 hsz hE
      go_wp2
      obtain ⟨cb, hcb⟩ : ∃ z, z = w1.heap.size := ⟨_, rfl⟩
      rw [← hcb] at HE ⊢
      clear hx0 hx1 hx2 hx3 hx4 hy5 k0 k1 k2 k4 HX HB
      have HSL := Aside0.mk hsl
      clear hsl
      go_loopw [5, 6] (fun o i wr => ∃ (jj : Nat) (v101_ : Value), v101_ = o ∧ jj ≤ x.f1.length ∧ i = .int .i64 jj ∧ EW w wr x A5 c5 A6 c6 cb ∧ Kd.R (Kd.int .u8) 5 wr w.heap.size (fun _ => True) v101_ (enL x jj 0) ∧ ((x.f1.take jj).all fun t => argB x.f0.f0 t.f1) = true) (fun _ i _ => x.f1.length - (intOf i).toNat)
      case atStart => exact ⟨0, _, rfl, Nat.zero_le _, rfl, HE.out, by rw [hcb] at *; exact HR.out, by simp⟩
      case round =>
        clear HR hcb
        obtain ⟨jj, v101_, hv101, hk, rfl, hE, hR, hs⟩ := hrel
        subst hv101
        have HS := Aside0.mk hs
        replace HE := Aside0.mk hE
        have hy5 := (blk_cell HE.out.1 5).trans rfl
        clear hs hE
        by_cases hlt : jj < x.f1.length
        · have P5W := Aside0.mk (Kd.C_below P5.out HE.out.2.2)
          obtain ⟨ad, eA, q0, q1, q2, q3, q4⟩ := at_T37 P5W.out (jj : Int) (by omega) (by omega)
          simp only [Int.toNat_natCast] at q0 q1 q2 q3 q4
          cases eA
          obtain ⟨ad_, eA_, qw, _⟩ := at_T37 P5.out (jj : Int) (by omega) (by omega)
          simp only [Int.toNat_natCast] at qw
          cases eA_
          obtain ⟨y, hy⟩ : ∃ y, y = rd_T37 x.f1 (jj : Int) := ⟨_, rfl⟩
          rw [← hy] at q0 q1 q2 q3 q4 qw
          have hsn := take_snoc x.f1 z37 jj hlt
          rw [show x.f1.getD jj z37 = y by rw [hy]; simp [rd_T37]] at hsn
          have hmem : y ∈ x.f1 := by rw [hy]; unfold rd_T37; simp [List.getD, hlt]
          have hgt := List.all_eq_true.1 HTG.out y hmem
          have hnx := enL_task x jj y hsn
          have hno : argB x.f0.f0 y.f1 = false → encB x = false := fun h => by unfold encB; rw [show (x.f1.all fun t => argB x.f0.f0 t.f1) = false from List.all_eq_false.2 ⟨y, hmem, by rw [h]; decide⟩]; simp
          have hlk : (jj : Int) < (x.f1.length : Int) := by omega
          have hkb : jj < 100 := by omega
          have hft := (Bool.and_eq_true_iff.1 hgt).2
          have hv01 := fits_val hft
          have hyt : 0 ≤ y.f0 ∧ y.f0 < 256 := by have := of_decide_eq_true (Bool.and_eq_true_iff.1 hgt).1; omega
          have hyb := byt HST.out hft
          have hkm := kind_mem HST.out hft
          obtain ⟨t0, ⟨k, key, val, tall⟩⟩ := y
          simp only [] at q0 q1 q2 q3 q4 qw hnx hno hyt hyb hkm hv01 hsn
          obtain ⟨hv0, hv1⟩ := hv01
          have hkey := hyb.2.1
          have HSN := Aside0.mk hsn
          have HNO := Aside0.mk hno
          have HNX := Aside0.mk hnx
          have BY0 := Aside0.mk hyt
          have BYI0 := Aside0.mk hyb.1
          have HKM0 := Aside0.mk hkm
          clear hsn hmem hno hgt hnx hft hyt hyb hy P5W hkm
          obtain ⟨out, hout⟩ : ∃ out, out = enL x jj 0 := ⟨_, rfl⟩
          have hol : out.length ≤ 300 := by rw [hout, enL_len x jj 0 hk (by omega)]; omega
          rw [← hout] at hR
          have HOL := Aside0.mk hol
          have HOUT := Aside0.mk hout
          clear hol hout
          have hb := below_alloc (Below.refl wr.heap.size wr) (.cells #[.int .i64 k, .int .i64 key, .int .i64 val, .int .i64 tall] 35)
          have FT0 := Aside0.mk (blk_new wr (.cells #[.int .i64 k, .int .i64 key, .int .i64 val, .int .i64 tall] 35))
          have HQ0 := Aside0.mk qw
          replace HE := Aside0.mk (EW_below HE.out hb)
          replace hR := Kd.R_below hR hb
          have hc0 : _ = some (Value.int .i64 x.f0.f0) := (blk_cell HE.out.2.1 0).trans rfl
          have HR := Aside0.mk hR
          have htm : val.tmod 256 = val % 256 := Int.tmod_eq_emod_of_nonneg hv0
          have htd : val.tdiv 256 = val / 256 := Int.tdiv_eq_ediv_of_nonneg hv0
          have ht3 : val.tmod 3 = val % 3 := Int.tmod_eq_emod_of_nonneg hv0
          have g0 : 0 ≤ val / 256 := by omega
          have g1 : val / 256 ≤ 4194304 := by omega
          have g2 : 0 ≤ val % 256 := by omega
          have g3 : val % 256 < 256 := by omega
          have g4 : 0 ≤ val % 3 := by omega
          have g5 : val % 3 < 3 := by omega
          clear hb hR qw
          cases hq : argB x.f0.f0 ⟨k, key, val, tall⟩
          · have hn := HNO.out hq
            have HN := Aside0.mk hn
            clear hn HR FT0 HQ0 BYI0 HKM0 HNO HNX
            by_cases k1 : k = 1
            · subst k1
              have hv : ¬ val / 256 ≤ 255 := by simp [argB, argX, argY] at hq; omega
              go_wp2
              go_ret2
              exact ⟨_, _, rfl, (fun h => by rw [HN.out] at h; cases h), (fun _ => ⟨rfl, rfl⟩), HE.out.2.2⟩
            · by_cases k4 : k = 4
              · subst k4
                have hv : ¬ val / 256 ≤ 255 := by simp [argB, argX, argY] at hq; omega
                go_wp2
                go_ret2
                exact ⟨_, _, rfl, (fun h => by rw [HN.out] at h; cases h), (fun _ => ⟨rfl, rfl⟩), HE.out.2.2⟩
              · have b1 : (k == 1) = false := by simp [k1]
                have b4 : (k == 4) = false := by simp [k4]
                by_cases n1 : key ≤ 255
                · by_cases n2 : val ≤ 255
                  · by_cases n6 : k = 6
                    · subst n6
                      by_cases n5 : x.f0.f0 = 5
                      · by_cases n3 : tall = val % 3 + 1
                        · exfalso
                          simp [argB, argX, argY, n5] at hq
                          omega
                        · have b3 : (tall != val % 3 + 1) = true := by simp [n3]
                          have b5 : (x.f0.f0 == 5) = true := by simp [n5]
                          go_wp2
                          go_ret2
                          exact ⟨_, _, rfl, (fun h => by rw [HN.out] at h; cases h), (fun _ => ⟨rfl, rfl⟩), HE.out.2.2⟩
                      · exfalso
                        simp [argB, argX, argY, n5] at hq
                        omega
                    · exfalso
                      simp [argB, argX, argY, n6, k1, k4] at hq
                      omega
                  · go_wp2
                    go_ret2
                    exact ⟨_, _, rfl, (fun h => by rw [HN.out] at h; cases h), (fun _ => ⟨rfl, rfl⟩), HE.out.2.2⟩
                · go_wp2
                  go_ret2
                  exact ⟨_, _, rfl, (fun h => by rw [HN.out] at h; cases h), (fun _ => ⟨rfl, rfl⟩), HE.out.2.2⟩
          · have HQB := Aside0.mk hq
            rcases arg_cases x.f0.f0 k key val tall hv0 hq with ⟨rfl, hc, hax, hay⟩ | ⟨rfl, hc, hax, hay⟩ | ⟨⟨hn1, hn4, hn6⟩, ⟨hc1, hc2⟩, hax, hay⟩ | ⟨rfl, ⟨hn5, hc1, hc2⟩, hax, hay⟩ | ⟨rfl, ⟨h5, rfl, hc1, hc2⟩, hax, hay⟩
            all_goals
              try (have b1 : (k == 1) = false := by simp [hn1])
              try (have b4 : (k == 4) = false := by simp [hn4])
              try (have b6 : (k == 6) = false := by simp [hn6])
              try (have b5 : (x.f0.f0 == 5) = false := by simp [hn5])
              try (rw [h5] at hc0; clear h5)
              have HAX := Aside0.mk hax
              have HAY := Aside0.mk hay
              clear hq hax hay
              go_wp2
              obtain ⟨kk, t1_, t2_, t3_, hkk, hFT⟩ := ft_pack FT0.out
              obtain ⟨w2, hw2, hE⟩ := w_of HE.out
              obtain ⟨tb, htb⟩ : ∃ z, z = wr.heap.size := ⟨_, rfl⟩
              rw [← hw2] at HR hFT ⊢
              rw [← htb] at hFT ⊢
              have FT := Aside0.mk hFT
              have RO101 := HR
              replace HE := Aside0.mk hE
              have BYI : Aside0 (0 ≤ idxI (kindsL x.f0.f0) kk ∧ idxI (kindsL x.f0.f0) kk < 256) := Aside0.mk (by rw [hkk]; exact BYI0.out)
              have HKM : Aside0 (kk ∈ kindsL x.f0.f0) := Aside0.mk (by rw [hkk]; exact HKM0.out)
              first
                | (obtain ⟨ax, hx_⟩ : ∃ z, z = val / 256 := ⟨_, rfl⟩
                   obtain ⟨ay, hy_⟩ : ∃ z, z = val % 256 := ⟨_, rfl⟩
                   have hAX := HAX.out.trans hx_.symm
                   have hAY := HAY.out.trans hy_.symm
                   have HAXX := Aside0.mk hAX
                   have HAYY := Aside0.mk hAY
                   clear hAX hAY
                   rw [← hx_, ← hy_])
                | (obtain ⟨ax, hx_⟩ : ∃ z, z = key := ⟨_, rfl⟩
                   obtain ⟨ay, hy_⟩ : ∃ z, z = val := ⟨_, rfl⟩
                   have hAX := HAX.out.trans hx_.symm
                   have hAY := HAY.out.trans hy_.symm
                   have HAXX := Aside0.mk hAX
                   have HAYY := Aside0.mk hAY
                   clear hAX hAY
                   rw [← hx_, ← hy_])
              have hnx2 : enL x (jj + 1) 0 = out ++ [t0, idxI (kindsL x.f0.f0) kk, ax, ay] := by
                rw [HNX.out, ← HOUT.out]
                unfold tkL
                simp only [b8]
                rw [HAXX.out, HAYY.out, hkk]
              have HNX2 := Aside0.mk hnx2
              have BYX : Aside0 (0 ≤ ax ∧ ax < 256) := Aside0.mk (by omega)
              have BYY : Aside0 (0 ≤ ay ∧ ay < 256) := Aside0.mk (by omega)
              clear hnx2 hw2 htb hkk hFT hE FT0 HR BYI0 HKM0 HNX hx_ hy_ HAX HAY HAXX HAYY hc0 hy5 q0 q1 q2 q3 q4 m5 m6 n5 n6 s1 s2 e1 e2 t1 t2 o1 o2 r1 r2 htm htd ht3 g0 g1 g2 g3 g4 g5
              try clear h5
              try clear b5
              try clear b6
              try clear b1
              try clear b4
              refine start_ (n := 22) (S := fun w' => True) (ds := []) #[false, false, false, false, false, false, false, false, false, false, false, false, false, false, false, false, false, false, false, false, false, false] (by kernel_rfl) rfl rfl trivial (fun hHeld => ?_)
              refine with_tabW renc16.tab16 renc16.bits16 (fun HT_ HW_ => ?_)
              have HBr := Aside0.mk (below_drew1 HE.out.2.2)
              refine inv_at [0, 1, 2, 3, 4, 5, 6, 7, 8, 9, 10, 11, 12, 13, 14, 15, 16, 17, 18, 19, 20, 21] (fun a0_ b a w' => ∃ (gk_ : Nat) (g120_ : Nat) (v121_ : Value) (m10_ : Value) (m19_ : Value) (m21_ : Value), a = putSel a0_ b [(0, 101, v101_), (1, 102, .pointer (some ⟨w.heap.size, 5, none⟩)), (2, 103, .slice (some ad) x.f1.length c5), (3, 104, .int .i64 (jj : Int)), (4, 105, .pointer (some (ad.add (jj * 5)))), (5, 106, .pointer (some (ad.add (jj * 5)))), (6, 107, .int .i64 t0), (7, 108, .int .u8 t0), (8, 109, .pointer (some ⟨cb, 0, none⟩)), (9, 110, .int .i64 x.f0.f0), (10, 111, m10_), (11, 112, .pointer (some ⟨tb, 0, none⟩)), (12, 113, .int .i64 kk), (13, 114, .int .i64 (idxI (kindsL x.f0.f0) kk)), (14, 115, .int .u8 (idxI (kindsL x.f0.f0) kk)), (15, 116, .int .i64 ax), (16, 117, .int .u8 ax), (17, 118, .int .i64 ay), (18, 119, .int .u8 ay), (19, 120, m19_), (20, 121, v121_), (21, 5, m21_)] ∧ (Below w.heap.size w w') ∧ (b 20 = false → Kd.R (Kd.int .u8) 5 w' w.heap.size (fun _ => True) v101_ (out)) ∧ (EW w w' x (some ad) c5 A6 c6 cb) ∧ (b 20 = false → w'.heap[tb]? = some (.cells #[.int .i64 kk, .int .i64 t1_, .int .i64 t2_, .int .i64 t3_] 35 (0, 0))) ∧ (b 10 = true → b 20 = false → (Kd.int .i64).C w' (some ⟨gk_, 0, none⟩) (kindsL x.f0.f0).length (kindsL x.f0.f0)) ∧ (b 19 = true → w'.heap[g120_]? = some (.cells #[.int .u8 t0, .int .u8 (idxI (kindsL x.f0.f0) kk), .int .u8 ax, .int .u8 ay] 5 (0, 0))) ∧ (b 20 = true → Kd.R (Kd.int .u8) 5 w' w.heap.size (fun _ => True) v121_ (out ++ [t0, idxI (kindsL x.f0.f0) kk, ax, ay])) ∧ (b 19 = true → b 20 = false → some g120_ ≠ v101_.ownBlock) ∧ (b 10 = true → (m10_ : Value) = .slice (some ⟨gk_, 0, none⟩) (kindsL x.f0.f0).length (kindsL x.f0.f0).length) ∧ (b 19 = true → (m19_ : Value) = .slice (some ⟨g120_, 0, none⟩) 4 4) ∧ (b 21 = true → (m21_ : Value) = v121_)) HT_.out HW_.out (by kernel_rfl) (by kernel_rfl) ?_ ?_ ?_
              · exact ⟨0, 0, .bool false, .bool false, .bool false, .bool false, by simp only [putSel, Bool.false_eq_true, if_false], HBr.out, fun _ => RO101.out, EW_below HE.out (below_drew (Below.refl _ _)), fun _ => FT.out, fun h_ => absurd h_ (by decide), fun h_ => absurd h_ (by decide), fun h_ => absurd h_ (by decide), fun h_ => absurd h_ (by decide), fun h_ => absurd h_ (by decide), fun h_ => absurd h_ (by decide), fun h_ => absurd h_ (by decide)⟩
              · skip
                clear FT HBr HE RO101
                refine steps_cons ?_ ?_
                · rintro b a w' ⟨gk_, g120_, v121_, m10_, m19_, m21_, ha, Q_HBr, Q_RO101, Q_HE, Q_FT, Q_FK, Q_BL120, Q_RO121, Q_NE101_120, Q_X10_, Q_X19_, Q_X21_⟩ hb_ hon hoff
                  refine ⟨_, rfl, fun K hK => ?_⟩
                  have e5 : a.tmps[5]? = some (v101_) := by rw [ha]; exact (putSel_not (hoff 21 (by kernel_rfl)) rfl).trans rfl
                  replace ha := Aside0.mk ha
                  have HBr := Aside0.mk Q_HBr
                  have RO101 := Aside0.mk (Q_RO101 (hoff 20 (by kernel_rfl)))
                  have HE := Aside0.mk Q_HE
                  have FT := Aside0.mk (Q_FT (hoff 20 (by kernel_rfl)))
                  refine value_ (w1 := w') (v := v101_) ?cA ?cB ?_ ?_
                  case cA => rfl
                  case cB => rfl
                  · go_simp
                    (try simp only [i64_w])
                    (try exact IntWalk.u8_in _ (by omega))
                    try rfl
                  refine hK.out _ _ ⟨gk_, g120_, v121_, m10_, m19_, m21_, (by rw [ha.out]; exact putSel_upk 0 hb_ rfl rfl rfl), Q_HBr, Q_RO101, Q_HE, Q_FT, Q_FK, Q_BL120, fun h0_ => absurd ((hoff 20 (by kernel_rfl)).symm.trans h0_) (by decide), Q_NE101_120, Q_X10_, Q_X19_, fun h0_ => absurd ((hoff 21 (by kernel_rfl)).symm.trans h0_) (by decide)⟩
                refine steps_cons ?_ ?_
                · rintro b a w' ⟨gk_, g120_, v121_, m10_, m19_, m21_, ha, Q_HBr, Q_RO101, Q_HE, Q_FT, Q_FK, Q_BL120, Q_RO121, Q_NE101_120, Q_X10_, Q_X19_, Q_X21_⟩ hb_ hon hoff
                  refine ⟨_, rfl, fun K hK => ?_⟩
                  have e1 : a.tmps[1]? = some (.pointer (some ⟨w.heap.size, 0, none⟩)) := by rw [ha]; exact (putSel_off rfl).trans rfl
                  replace ha := Aside0.mk ha
                  have HBr := Aside0.mk Q_HBr
                  have RO101 := Aside0.mk (Q_RO101 (hoff 20 (by kernel_rfl)))
                  have HE := Aside0.mk Q_HE
                  have FT := Aside0.mk (Q_FT (hoff 20 (by kernel_rfl)))
                  refine value_ (w1 := w') (v := .pointer (some ⟨w.heap.size, 5, none⟩)) ?cA ?cB ?_ ?_
                  case cA => rfl
                  case cB => rfl
                  · go_simp
                    (try simp only [i64_w])
                    (try exact IntWalk.u8_in _ (by omega))
                    try rfl
                  refine hK.out _ _ ⟨gk_, g120_, v121_, m10_, m19_, m21_, (by rw [ha.out]; exact putSel_upk 1 hb_ rfl rfl rfl), Q_HBr, Q_RO101, Q_HE, Q_FT, Q_FK, fun h0_ => absurd ((hoff 19 (by kernel_rfl)).symm.trans h0_) (by decide), fun h0_ => absurd ((hoff 20 (by kernel_rfl)).symm.trans h0_) (by decide), fun h0_ _ => absurd ((hoff 19 (by kernel_rfl)).symm.trans h0_) (by decide), Q_X10_, fun h0_ => absurd ((hoff 19 (by kernel_rfl)).symm.trans h0_) (by decide), fun h0_ => absurd ((hoff 21 (by kernel_rfl)).symm.trans h0_) (by decide)⟩
                refine steps_cons ?_ ?_
                · rintro b a w' ⟨gk_, g120_, v121_, m10_, m19_, m21_, ha, Q_HBr, Q_RO101, Q_HE, Q_FT, Q_FK, Q_BL120, Q_RO121, Q_NE101_120, Q_X10_, Q_X19_, Q_X21_⟩ hb_ hon hoff
                  refine ⟨_, rfl, fun K hK => ?_⟩
                  have e102 : a.tmps[102]? = some (.pointer (some ⟨w.heap.size, 5, none⟩)) := by rw [ha]; exact putSel_on (e := (1, 102, .pointer (some ⟨w.heap.size, 5, none⟩))) 1 rfl rfl (hon 1 (by kernel_rfl)) rfl
                  replace ha := Aside0.mk ha
                  have HBr := Aside0.mk Q_HBr
                  have RO101 := Aside0.mk (Q_RO101 (hoff 20 (by kernel_rfl)))
                  have HE := Aside0.mk Q_HE
                  have FT := Aside0.mk (Q_FT (hoff 20 (by kernel_rfl)))
                  have z5_ : w'.cell? ⟨w.heap.size, 5, none⟩ = some (.slice (some ad) x.f1.length c5) := (blk_cell (HE.out.1) 5).trans rfl
                  refine value_ (w1 := w') (v := .slice (some ad) x.f1.length c5) ?cA ?cB ?_ ?_
                  case cA => rfl
                  case cB => rfl
                  · go_simp
                    (try simp only [i64_w])
                    (try exact IntWalk.u8_in _ (by omega))
                    try rfl
                  refine hK.out _ _ ⟨gk_, g120_, v121_, m10_, m19_, m21_, (by rw [ha.out]; exact putSel_upk 2 hb_ rfl rfl rfl), Q_HBr, Q_RO101, Q_HE, Q_FT, Q_FK, fun h0_ => absurd ((hoff 19 (by kernel_rfl)).symm.trans h0_) (by decide), fun h0_ => absurd ((hoff 20 (by kernel_rfl)).symm.trans h0_) (by decide), fun h0_ _ => absurd ((hoff 19 (by kernel_rfl)).symm.trans h0_) (by decide), Q_X10_, fun h0_ => absurd ((hoff 19 (by kernel_rfl)).symm.trans h0_) (by decide), fun h0_ => absurd ((hoff 21 (by kernel_rfl)).symm.trans h0_) (by decide)⟩
                refine steps_cons ?_ ?_
                · rintro b a w' ⟨gk_, g120_, v121_, m10_, m19_, m21_, ha, Q_HBr, Q_RO101, Q_HE, Q_FT, Q_FK, Q_BL120, Q_RO121, Q_NE101_120, Q_X10_, Q_X19_, Q_X21_⟩ hb_ hon hoff
                  refine ⟨_, rfl, fun K hK => ?_⟩
                  have e6 : a.tmps[6]? = some (.int .i64 (jj : Int)) := by rw [ha]; exact (putSel_off rfl).trans rfl
                  replace ha := Aside0.mk ha
                  have HBr := Aside0.mk Q_HBr
                  have RO101 := Aside0.mk (Q_RO101 (hoff 20 (by kernel_rfl)))
                  have HE := Aside0.mk Q_HE
                  have FT := Aside0.mk (Q_FT (hoff 20 (by kernel_rfl)))
                  refine value_ (w1 := w') (v := .int .i64 (jj : Int)) ?cA ?cB ?_ ?_
                  case cA => rfl
                  case cB => rfl
                  · go_simp
                    (try simp only [i64_w])
                    (try exact IntWalk.u8_in _ (by omega))
                    try rfl
                  refine hK.out _ _ ⟨gk_, g120_, v121_, m10_, m19_, m21_, (by rw [ha.out]; exact putSel_upk 3 hb_ rfl rfl rfl), Q_HBr, Q_RO101, Q_HE, Q_FT, Q_FK, fun h0_ => absurd ((hoff 19 (by kernel_rfl)).symm.trans h0_) (by decide), fun h0_ => absurd ((hoff 20 (by kernel_rfl)).symm.trans h0_) (by decide), fun h0_ _ => absurd ((hoff 19 (by kernel_rfl)).symm.trans h0_) (by decide), Q_X10_, fun h0_ => absurd ((hoff 19 (by kernel_rfl)).symm.trans h0_) (by decide), fun h0_ => absurd ((hoff 21 (by kernel_rfl)).symm.trans h0_) (by decide)⟩
                refine steps_cons ?_ ?_
                · rintro b a w' ⟨gk_, g120_, v121_, m10_, m19_, m21_, ha, Q_HBr, Q_RO101, Q_HE, Q_FT, Q_FK, Q_BL120, Q_RO121, Q_NE101_120, Q_X10_, Q_X19_, Q_X21_⟩ hb_ hon hoff
                  refine ⟨_, rfl, fun K hK => ?_⟩
                  have e103 : a.tmps[103]? = some (.slice (some ad) x.f1.length c5) := by rw [ha]; exact putSel_on (e := (2, 103, .slice (some ad) x.f1.length c5)) 2 rfl rfl (hon 2 (by kernel_rfl)) rfl
                  have e104 : a.tmps[104]? = some (.int .i64 (jj : Int)) := by rw [ha]; exact putSel_on (e := (3, 104, .int .i64 (jj : Int))) 3 rfl rfl (hon 3 (by kernel_rfl)) rfl
                  replace ha := Aside0.mk ha
                  have HBr := Aside0.mk Q_HBr
                  have RO101 := Aside0.mk (Q_RO101 (hoff 20 (by kernel_rfl)))
                  have HE := Aside0.mk Q_HE
                  have FT := Aside0.mk (Q_FT (hoff 20 (by kernel_rfl)))
                  refine value_ (w1 := w') (v := .pointer (some (ad.add (jj * 5)))) ?cA ?cB ?_ ?_
                  case cA => rfl
                  case cB => rfl
                  · go_simp
                    (try simp only [i64_w])
                    (try exact IntWalk.u8_in _ (by omega))
                    try rfl
                  refine hK.out _ _ ⟨gk_, g120_, v121_, m10_, m19_, m21_, (by rw [ha.out]; exact putSel_upk 4 hb_ rfl rfl rfl), Q_HBr, Q_RO101, Q_HE, Q_FT, Q_FK, fun h0_ => absurd ((hoff 19 (by kernel_rfl)).symm.trans h0_) (by decide), fun h0_ => absurd ((hoff 20 (by kernel_rfl)).symm.trans h0_) (by decide), fun h0_ _ => absurd ((hoff 19 (by kernel_rfl)).symm.trans h0_) (by decide), Q_X10_, fun h0_ => absurd ((hoff 19 (by kernel_rfl)).symm.trans h0_) (by decide), fun h0_ => absurd ((hoff 21 (by kernel_rfl)).symm.trans h0_) (by decide)⟩
                refine steps_cons ?_ ?_
                · rintro b a w' ⟨gk_, g120_, v121_, m10_, m19_, m21_, ha, Q_HBr, Q_RO101, Q_HE, Q_FT, Q_FK, Q_BL120, Q_RO121, Q_NE101_120, Q_X10_, Q_X19_, Q_X21_⟩ hb_ hon hoff
                  refine ⟨_, rfl, fun K hK => ?_⟩
                  have e105 : a.tmps[105]? = some (.pointer (some (ad.add (jj * 5)))) := by rw [ha]; exact putSel_on (e := (4, 105, .pointer (some (ad.add (jj * 5))))) 4 rfl rfl (hon 4 (by kernel_rfl)) rfl
                  replace ha := Aside0.mk ha
                  have HBr := Aside0.mk Q_HBr
                  have RO101 := Aside0.mk (Q_RO101 (hoff 20 (by kernel_rfl)))
                  have HE := Aside0.mk Q_HE
                  have FT := Aside0.mk (Q_FT (hoff 20 (by kernel_rfl)))
                  refine value_ (w1 := w') (v := .pointer (some (ad.add (jj * 5)))) ?cA ?cB ?_ ?_
                  case cA => rfl
                  case cB => rfl
                  · go_simp
                    (try simp only [i64_w])
                    (try exact IntWalk.u8_in _ (by omega))
                    try rfl
                  refine hK.out _ _ ⟨gk_, g120_, v121_, m10_, m19_, m21_, (by rw [ha.out]; exact putSel_upk 5 hb_ rfl rfl rfl), Q_HBr, Q_RO101, Q_HE, Q_FT, Q_FK, fun h0_ => absurd ((hoff 19 (by kernel_rfl)).symm.trans h0_) (by decide), fun h0_ => absurd ((hoff 20 (by kernel_rfl)).symm.trans h0_) (by decide), fun h0_ _ => absurd ((hoff 19 (by kernel_rfl)).symm.trans h0_) (by decide), Q_X10_, fun h0_ => absurd ((hoff 19 (by kernel_rfl)).symm.trans h0_) (by decide), fun h0_ => absurd ((hoff 21 (by kernel_rfl)).symm.trans h0_) (by decide)⟩
                refine steps_cons ?_ ?_
                · rintro b a w' ⟨gk_, g120_, v121_, m10_, m19_, m21_, ha, Q_HBr, Q_RO101, Q_HE, Q_FT, Q_FK, Q_BL120, Q_RO121, Q_NE101_120, Q_X10_, Q_X19_, Q_X21_⟩ hb_ hon hoff
                  refine ⟨_, rfl, fun K hK => ?_⟩
                  have e106 : a.tmps[106]? = some (.pointer (some (ad.add (jj * 5)))) := by rw [ha]; exact putSel_on (e := (5, 106, .pointer (some (ad.add (jj * 5))))) 5 rfl rfl (hon 5 (by kernel_rfl)) rfl
                  replace ha := Aside0.mk ha
                  have HBr := Aside0.mk Q_HBr
                  have RO101 := Aside0.mk (Q_RO101 (hoff 20 (by kernel_rfl)))
                  have HE := Aside0.mk Q_HE
                  have FT := Aside0.mk (Q_FT (hoff 20 (by kernel_rfl)))
                  have z0_ := pw_cell_below HBr.out HQ0.out
                  refine value_ (w1 := w') (v := .int .i64 t0) ?cA ?cB ?_ ?_
                  case cA => rfl
                  case cB => rfl
                  · go_simp
                    (try simp only [i64_w])
                    (try exact IntWalk.u8_in _ (by omega))
                    try rfl
                  refine hK.out _ _ ⟨gk_, g120_, v121_, m10_, m19_, m21_, (by rw [ha.out]; exact putSel_upk 6 hb_ rfl rfl rfl), Q_HBr, Q_RO101, Q_HE, Q_FT, Q_FK, fun h0_ => absurd ((hoff 19 (by kernel_rfl)).symm.trans h0_) (by decide), fun h0_ => absurd ((hoff 20 (by kernel_rfl)).symm.trans h0_) (by decide), fun h0_ _ => absurd ((hoff 19 (by kernel_rfl)).symm.trans h0_) (by decide), Q_X10_, fun h0_ => absurd ((hoff 19 (by kernel_rfl)).symm.trans h0_) (by decide), fun h0_ => absurd ((hoff 21 (by kernel_rfl)).symm.trans h0_) (by decide)⟩
                refine steps_cons ?_ ?_
                · rintro b a w' ⟨gk_, g120_, v121_, m10_, m19_, m21_, ha, Q_HBr, Q_RO101, Q_HE, Q_FT, Q_FK, Q_BL120, Q_RO121, Q_NE101_120, Q_X10_, Q_X19_, Q_X21_⟩ hb_ hon hoff
                  refine ⟨_, rfl, fun K hK => ?_⟩
                  have e107 : a.tmps[107]? = some (.int .i64 t0) := by rw [ha]; exact putSel_on (e := (6, 107, .int .i64 t0)) 6 rfl rfl (hon 6 (by kernel_rfl)) rfl
                  replace ha := Aside0.mk ha
                  have HBr := Aside0.mk Q_HBr
                  have RO101 := Aside0.mk (Q_RO101 (hoff 20 (by kernel_rfl)))
                  have HE := Aside0.mk Q_HE
                  have FT := Aside0.mk (Q_FT (hoff 20 (by kernel_rfl)))
                  have z1_ : 0 ≤ t0 := BY0.out.1
                  have z2_ : t0 < 256 := BY0.out.2
                  refine value_ (w1 := w') (v := .int .u8 t0) ?cA ?cB ?_ ?_
                  case cA => rfl
                  case cB => rfl
                  · go_simp
                    (try simp only [i64_w])
                    (try exact IntWalk.u8_in _ (by omega))
                    try rfl
                  refine hK.out _ _ ⟨gk_, g120_, v121_, m10_, m19_, m21_, (by rw [ha.out]; exact putSel_upk 7 hb_ rfl rfl rfl), Q_HBr, Q_RO101, Q_HE, Q_FT, Q_FK, fun h0_ => absurd ((hoff 19 (by kernel_rfl)).symm.trans h0_) (by decide), fun h0_ => absurd ((hoff 20 (by kernel_rfl)).symm.trans h0_) (by decide), fun h0_ _ => absurd ((hoff 19 (by kernel_rfl)).symm.trans h0_) (by decide), Q_X10_, fun h0_ => absurd ((hoff 19 (by kernel_rfl)).symm.trans h0_) (by decide), fun h0_ => absurd ((hoff 21 (by kernel_rfl)).symm.trans h0_) (by decide)⟩
                refine steps_cons ?_ ?_
                · rintro b a w' ⟨gk_, g120_, v121_, m10_, m19_, m21_, ha, Q_HBr, Q_RO101, Q_HE, Q_FT, Q_FK, Q_BL120, Q_RO121, Q_NE101_120, Q_X10_, Q_X19_, Q_X21_⟩ hb_ hon hoff
                  refine ⟨_, rfl, fun K hK => ?_⟩
                  have e4 : a.tmps[4]? = some (.pointer (some ⟨cb, 0, none⟩)) := by rw [ha]; exact (putSel_off rfl).trans rfl
                  replace ha := Aside0.mk ha
                  have HBr := Aside0.mk Q_HBr
                  have RO101 := Aside0.mk (Q_RO101 (hoff 20 (by kernel_rfl)))
                  have HE := Aside0.mk Q_HE
                  have FT := Aside0.mk (Q_FT (hoff 20 (by kernel_rfl)))
                  refine value_ (w1 := w') (v := .pointer (some ⟨cb, 0, none⟩)) ?cA ?cB ?_ ?_
                  case cA => rfl
                  case cB => rfl
                  · go_simp
                    (try simp only [i64_w])
                    (try exact IntWalk.u8_in _ (by omega))
                    try rfl
                  refine hK.out _ _ ⟨gk_, g120_, v121_, m10_, m19_, m21_, (by rw [ha.out]; exact putSel_upk 8 hb_ rfl rfl rfl), Q_HBr, Q_RO101, Q_HE, Q_FT, fun h0_ _ => absurd ((hoff 10 (by kernel_rfl)).symm.trans h0_) (by decide), fun h0_ => absurd ((hoff 19 (by kernel_rfl)).symm.trans h0_) (by decide), fun h0_ => absurd ((hoff 20 (by kernel_rfl)).symm.trans h0_) (by decide), fun h0_ _ => absurd ((hoff 19 (by kernel_rfl)).symm.trans h0_) (by decide), fun h0_ => absurd ((hoff 10 (by kernel_rfl)).symm.trans h0_) (by decide), fun h0_ => absurd ((hoff 19 (by kernel_rfl)).symm.trans h0_) (by decide), fun h0_ => absurd ((hoff 21 (by kernel_rfl)).symm.trans h0_) (by decide)⟩
                refine steps_cons ?_ ?_
                · rintro b a w' ⟨gk_, g120_, v121_, m10_, m19_, m21_, ha, Q_HBr, Q_RO101, Q_HE, Q_FT, Q_FK, Q_BL120, Q_RO121, Q_NE101_120, Q_X10_, Q_X19_, Q_X21_⟩ hb_ hon hoff
                  refine ⟨_, rfl, fun K hK => ?_⟩
                  have e109 : a.tmps[109]? = some (.pointer (some ⟨cb, 0, none⟩)) := by rw [ha]; exact putSel_on (e := (8, 109, .pointer (some ⟨cb, 0, none⟩))) 8 rfl rfl (hon 8 (by kernel_rfl)) rfl
                  replace ha := Aside0.mk ha
                  have HBr := Aside0.mk Q_HBr
                  have RO101 := Aside0.mk (Q_RO101 (hoff 20 (by kernel_rfl)))
                  have HE := Aside0.mk Q_HE
                  have FT := Aside0.mk (Q_FT (hoff 20 (by kernel_rfl)))
                  have z0_ : w'.cell? ⟨cb, 0, none⟩ = some (.int .i64 x.f0.f0) := (blk_cell (HE.out.2.1) 0).trans rfl
                  refine value_ (w1 := w') (v := .int .i64 x.f0.f0) ?cA ?cB ?_ ?_
                  case cA => rfl
                  case cB => rfl
                  · go_simp
                    (try simp only [i64_w])
                    (try exact IntWalk.u8_in _ (by omega))
                    try rfl
                  refine hK.out _ _ ⟨gk_, g120_, v121_, m10_, m19_, m21_, (by rw [ha.out]; exact putSel_upk 9 hb_ rfl rfl rfl), Q_HBr, Q_RO101, Q_HE, Q_FT, fun h0_ _ => absurd ((hoff 10 (by kernel_rfl)).symm.trans h0_) (by decide), fun h0_ => absurd ((hoff 19 (by kernel_rfl)).symm.trans h0_) (by decide), fun h0_ => absurd ((hoff 20 (by kernel_rfl)).symm.trans h0_) (by decide), fun h0_ _ => absurd ((hoff 19 (by kernel_rfl)).symm.trans h0_) (by decide), fun h0_ => absurd ((hoff 10 (by kernel_rfl)).symm.trans h0_) (by decide), fun h0_ => absurd ((hoff 19 (by kernel_rfl)).symm.trans h0_) (by decide), fun h0_ => absurd ((hoff 21 (by kernel_rfl)).symm.trans h0_) (by decide)⟩
                refine steps_cons ?_ ?_
                · rintro b a w' ⟨gk_, g120_, v121_, m10_, m19_, m21_, ha, Q_HBr, Q_RO101, Q_HE, Q_FT, Q_FK, Q_BL120, Q_RO121, Q_NE101_120, Q_X10_, Q_X19_, Q_X21_⟩ hb_ hon hoff
                  refine ⟨_, rfl, fun K hK => ?_⟩
                  have e110 : a.tmps[110]? = some (.int .i64 x.f0.f0) := by rw [ha]; exact putSel_on (e := (9, 110, .int .i64 x.f0.f0)) 9 rfl rfl (hon 9 (by kernel_rfl)) rfl
                  replace ha := Aside0.mk ha
                  have HBr := Aside0.mk Q_HBr
                  have RO101 := Aside0.mk (Q_RO101 (hoff 20 (by kernel_rfl)))
                  have HE := Aside0.mk Q_HE
                  have FT := Aside0.mk (Q_FT (hoff 20 (by kernel_rfl)))
                  refine goes_ Tryd.func38 (by kernel_rfl) rfl #[.int .i64 x.f0.f0] (by rfl) rfl rfl (by first | (simp only [List.map_toArray, List.map_cons, List.map_nil, Act.eval, Array.getD_eq_getD_getElem?, Option.getD_some, e110]; done) | (simp only [List.map_toArray, List.map_cons, List.map_nil, Act.eval, Array.getD_eq_getD_getElem?, Option.getD_some, e110]; rfl)) ?_
                  refine (rkinds_c x.f0.f0 HST.out w').mono ?_
                  rintro e w1 ⟨gz_, rfl, hK_, hb1⟩
                  refine ⟨_, rfl, ?_⟩
                  refine hK.out _ _ ⟨gz_, g120_, v121_, (.slice (some ⟨gz_, 0, none⟩) (kindsL x.f0.f0).length (kindsL x.f0.f0).length), m19_, m21_, (by rw [ha.out]; exact putSel_upk 10 hb_ rfl rfl rfl), below_step HBr.out hb1, fun _ => Kd.R_below RO101.out hb1, EW_below HE.out hb1, fun _ => blk_below hb1 FT.out, fun _ _ => hK_, fun h0_ => absurd ((hoff 19 (by kernel_rfl)).symm.trans h0_) (by decide), fun h0_ => absurd ((hoff 20 (by kernel_rfl)).symm.trans h0_) (by decide), fun h0_ _ => absurd ((hoff 19 (by kernel_rfl)).symm.trans h0_) (by decide), fun _ => rfl, fun h0_ => absurd ((hoff 19 (by kernel_rfl)).symm.trans h0_) (by decide), fun h0_ => absurd ((hoff 21 (by kernel_rfl)).symm.trans h0_) (by decide)⟩
                refine steps_cons ?_ ?_
                · rintro b a w' ⟨gk_, g120_, v121_, m10_, m19_, m21_, ha, Q_HBr, Q_RO101, Q_HE, Q_FT, Q_FK, Q_BL120, Q_RO121, Q_NE101_120, Q_X10_, Q_X19_, Q_X21_⟩ hb_ hon hoff
                  refine ⟨_, rfl, fun K hK => ?_⟩
                  have e7 : a.tmps[7]? = some (.pointer (some ⟨tb, 0, none⟩)) := by rw [ha]; exact (putSel_off rfl).trans rfl
                  replace ha := Aside0.mk ha
                  have HBr := Aside0.mk Q_HBr
                  have RO101 := Aside0.mk (Q_RO101 (hoff 20 (by kernel_rfl)))
                  have HE := Aside0.mk Q_HE
                  have FT := Aside0.mk (Q_FT (hoff 20 (by kernel_rfl)))
                  refine value_ (w1 := w') (v := .pointer (some ⟨tb, 0, none⟩)) ?cA ?cB ?_ ?_
                  case cA => rfl
                  case cB => rfl
                  · go_simp
                    (try simp only [i64_w])
                    (try exact IntWalk.u8_in _ (by omega))
                    try rfl
                  refine hK.out _ _ ⟨gk_, g120_, v121_, m10_, m19_, m21_, (by rw [ha.out]; exact putSel_upk 11 hb_ rfl rfl rfl), Q_HBr, Q_RO101, Q_HE, Q_FT, Q_FK, fun h0_ => absurd ((hoff 19 (by kernel_rfl)).symm.trans h0_) (by decide), fun h0_ => absurd ((hoff 20 (by kernel_rfl)).symm.trans h0_) (by decide), fun h0_ _ => absurd ((hoff 19 (by kernel_rfl)).symm.trans h0_) (by decide), Q_X10_, fun h0_ => absurd ((hoff 19 (by kernel_rfl)).symm.trans h0_) (by decide), fun h0_ => absurd ((hoff 21 (by kernel_rfl)).symm.trans h0_) (by decide)⟩
                refine steps_cons ?_ ?_
                · rintro b a w' ⟨gk_, g120_, v121_, m10_, m19_, m21_, ha, Q_HBr, Q_RO101, Q_HE, Q_FT, Q_FK, Q_BL120, Q_RO121, Q_NE101_120, Q_X10_, Q_X19_, Q_X21_⟩ hb_ hon hoff
                  refine ⟨_, rfl, fun K hK => ?_⟩
                  have e112 : a.tmps[112]? = some (.pointer (some ⟨tb, 0, none⟩)) := by rw [ha]; exact putSel_on (e := (11, 112, .pointer (some ⟨tb, 0, none⟩))) 11 rfl rfl (hon 11 (by kernel_rfl)) rfl
                  replace ha := Aside0.mk ha
                  have HBr := Aside0.mk Q_HBr
                  have RO101 := Aside0.mk (Q_RO101 (hoff 20 (by kernel_rfl)))
                  have HE := Aside0.mk Q_HE
                  have FT := Aside0.mk (Q_FT (hoff 20 (by kernel_rfl)))
                  have z0_ : w'.cell? ⟨tb, 0, none⟩ = some (.int .i64 kk) := (blk_cell (FT.out) 0).trans rfl
                  refine value_ (w1 := w') (v := .int .i64 kk) ?cA ?cB ?_ ?_
                  case cA => rfl
                  case cB => rfl
                  · go_simp
                    (try simp only [i64_w])
                    (try exact IntWalk.u8_in _ (by omega))
                    try rfl
                  refine hK.out _ _ ⟨gk_, g120_, v121_, m10_, m19_, m21_, (by rw [ha.out]; exact putSel_upk 12 hb_ rfl rfl rfl), Q_HBr, Q_RO101, Q_HE, Q_FT, Q_FK, fun h0_ => absurd ((hoff 19 (by kernel_rfl)).symm.trans h0_) (by decide), fun h0_ => absurd ((hoff 20 (by kernel_rfl)).symm.trans h0_) (by decide), fun h0_ _ => absurd ((hoff 19 (by kernel_rfl)).symm.trans h0_) (by decide), Q_X10_, fun h0_ => absurd ((hoff 19 (by kernel_rfl)).symm.trans h0_) (by decide), fun h0_ => absurd ((hoff 21 (by kernel_rfl)).symm.trans h0_) (by decide)⟩
                refine steps_cons ?_ ?_
                · rintro b a w' ⟨gk_, g120_, v121_, m10_, m19_, m21_, ha, Q_HBr, Q_RO101, Q_HE, Q_FT, Q_FK, Q_BL120, Q_RO121, Q_NE101_120, Q_X10_, Q_X19_, Q_X21_⟩ hb_ hon hoff
                  refine ⟨_, rfl, fun K hK => ?_⟩
                  have e111 : a.tmps[111]? = some (m10_) := by rw [ha]; exact putSel_on (e := (10, 111, m10_)) 10 rfl rfl (hon 10 (by kernel_rfl)) rfl
                  rw [Q_X10_ (hon 10 (by kernel_rfl))] at e111
                  have e113 : a.tmps[113]? = some (.int .i64 kk) := by rw [ha]; exact putSel_on (e := (12, 113, .int .i64 kk)) 12 rfl rfl (hon 12 (by kernel_rfl)) rfl
                  replace ha := Aside0.mk ha
                  have HBr := Aside0.mk Q_HBr
                  have RO101 := Aside0.mk (Q_RO101 (hoff 20 (by kernel_rfl)))
                  have HE := Aside0.mk Q_HE
                  have FT := Aside0.mk (Q_FT (hoff 20 (by kernel_rfl)))
                  have FK := Aside0.mk (Q_FK (hon 10 (by kernel_rfl)) (hoff 20 (by kernel_rfl)))
                  refine goes_ Tryd.func37 (by kernel_rfl) rfl #[.slice (some ⟨gk_, 0, none⟩) (kindsL x.f0.f0).length (kindsL x.f0.f0).length, .int .i64 kk] (by rfl) rfl rfl (by first | (simp only [List.map_toArray, List.map_cons, List.map_nil, Act.eval, Array.getD_eq_getD_getElem?, Option.getD_some, e111, e113]; done) | (simp only [List.map_toArray, List.map_cons, List.map_nil, Act.eval, Array.getD_eq_getD_getElem?, Option.getD_some, e111, e113]; rfl)) ?_
                  refine (rplace_c (some ⟨gk_, 0, none⟩) (kindsL x.f0.f0).length (kindsL x.f0.f0) kk w' FK.out HKM.out).mono ?_
                  rintro e w1 ⟨rfl, hw_⟩
                  refine ⟨_, rfl, ?_⟩
                  refine hK.out _ _ ⟨gk_, g120_, v121_, m10_, m19_, m21_, (by rw [ha.out]; exact putSel_upk 13 hb_ rfl rfl rfl), below_step HBr.out (by rw [hw_]; exact Below.refl _ _), fun _ => Kd.R_below RO101.out (by rw [hw_]; exact Below.refl _ _), EW_below HE.out (by rw [hw_]; exact Below.refl _ _), fun _ => blk_below (by rw [hw_]; exact Below.refl _ _) FT.out, fun _ _ => Kd.C_below FK.out (by rw [hw_]; exact Below.refl _ _), fun h0_ => absurd ((hoff 19 (by kernel_rfl)).symm.trans h0_) (by decide), fun h0_ => absurd ((hoff 20 (by kernel_rfl)).symm.trans h0_) (by decide), fun h0_ _ => absurd ((hoff 19 (by kernel_rfl)).symm.trans h0_) (by decide), Q_X10_, fun h0_ => absurd ((hoff 19 (by kernel_rfl)).symm.trans h0_) (by decide), fun h0_ => absurd ((hoff 21 (by kernel_rfl)).symm.trans h0_) (by decide)⟩
                refine steps_cons ?_ ?_
                · rintro b a w' ⟨gk_, g120_, v121_, m10_, m19_, m21_, ha, Q_HBr, Q_RO101, Q_HE, Q_FT, Q_FK, Q_BL120, Q_RO121, Q_NE101_120, Q_X10_, Q_X19_, Q_X21_⟩ hb_ hon hoff
                  refine ⟨_, rfl, fun K hK => ?_⟩
                  have e114 : a.tmps[114]? = some (.int .i64 (idxI (kindsL x.f0.f0) kk)) := by rw [ha]; exact putSel_on (e := (13, 114, .int .i64 (idxI (kindsL x.f0.f0) kk))) 13 rfl rfl (hon 13 (by kernel_rfl)) rfl
                  replace ha := Aside0.mk ha
                  have HBr := Aside0.mk Q_HBr
                  have RO101 := Aside0.mk (Q_RO101 (hoff 20 (by kernel_rfl)))
                  have HE := Aside0.mk Q_HE
                  have FT := Aside0.mk (Q_FT (hoff 20 (by kernel_rfl)))
                  have FK := Aside0.mk (Q_FK (hon 10 (by kernel_rfl)) (hoff 20 (by kernel_rfl)))
                  have z1_ : 0 ≤ idxI (kindsL x.f0.f0) kk := BYI.out.1
                  have z2_ : idxI (kindsL x.f0.f0) kk < 256 := BYI.out.2
                  refine value_ (w1 := w') (v := .int .u8 (idxI (kindsL x.f0.f0) kk)) ?cA ?cB ?_ ?_
                  case cA => rfl
                  case cB => rfl
                  · go_simp
                    (try simp only [i64_w])
                    (try exact IntWalk.u8_in _ (by omega))
                    try rfl
                  refine hK.out _ _ ⟨gk_, g120_, v121_, m10_, m19_, m21_, (by rw [ha.out]; exact putSel_upk 14 hb_ rfl rfl rfl), Q_HBr, Q_RO101, Q_HE, Q_FT, Q_FK, fun h0_ => absurd ((hoff 19 (by kernel_rfl)).symm.trans h0_) (by decide), fun h0_ => absurd ((hoff 20 (by kernel_rfl)).symm.trans h0_) (by decide), fun h0_ _ => absurd ((hoff 19 (by kernel_rfl)).symm.trans h0_) (by decide), Q_X10_, fun h0_ => absurd ((hoff 19 (by kernel_rfl)).symm.trans h0_) (by decide), fun h0_ => absurd ((hoff 21 (by kernel_rfl)).symm.trans h0_) (by decide)⟩
                refine steps_cons ?_ ?_
                · rintro b a w' ⟨gk_, g120_, v121_, m10_, m19_, m21_, ha, Q_HBr, Q_RO101, Q_HE, Q_FT, Q_FK, Q_BL120, Q_RO121, Q_NE101_120, Q_X10_, Q_X19_, Q_X21_⟩ hb_ hon hoff
                  refine ⟨_, rfl, fun K hK => ?_⟩
                  have e8 : a.tmps[8]? = some (.int .i64 ax) := by rw [ha]; exact (putSel_off rfl).trans rfl
                  replace ha := Aside0.mk ha
                  have HBr := Aside0.mk Q_HBr
                  have RO101 := Aside0.mk (Q_RO101 (hoff 20 (by kernel_rfl)))
                  have HE := Aside0.mk Q_HE
                  have FT := Aside0.mk (Q_FT (hoff 20 (by kernel_rfl)))
                  refine value_ (w1 := w') (v := .int .i64 ax) ?cA ?cB ?_ ?_
                  case cA => rfl
                  case cB => rfl
                  · go_simp
                    (try simp only [i64_w])
                    (try exact IntWalk.u8_in _ (by omega))
                    try rfl
                  refine hK.out _ _ ⟨gk_, g120_, v121_, m10_, m19_, m21_, (by rw [ha.out]; exact putSel_upk 15 hb_ rfl rfl rfl), Q_HBr, Q_RO101, Q_HE, Q_FT, Q_FK, fun h0_ => absurd ((hoff 19 (by kernel_rfl)).symm.trans h0_) (by decide), fun h0_ => absurd ((hoff 20 (by kernel_rfl)).symm.trans h0_) (by decide), fun h0_ _ => absurd ((hoff 19 (by kernel_rfl)).symm.trans h0_) (by decide), Q_X10_, fun h0_ => absurd ((hoff 19 (by kernel_rfl)).symm.trans h0_) (by decide), fun h0_ => absurd ((hoff 21 (by kernel_rfl)).symm.trans h0_) (by decide)⟩
                refine steps_cons ?_ ?_
                · rintro b a w' ⟨gk_, g120_, v121_, m10_, m19_, m21_, ha, Q_HBr, Q_RO101, Q_HE, Q_FT, Q_FK, Q_BL120, Q_RO121, Q_NE101_120, Q_X10_, Q_X19_, Q_X21_⟩ hb_ hon hoff
                  refine ⟨_, rfl, fun K hK => ?_⟩
                  have e116 : a.tmps[116]? = some (.int .i64 ax) := by rw [ha]; exact putSel_on (e := (15, 116, .int .i64 ax)) 15 rfl rfl (hon 15 (by kernel_rfl)) rfl
                  replace ha := Aside0.mk ha
                  have HBr := Aside0.mk Q_HBr
                  have RO101 := Aside0.mk (Q_RO101 (hoff 20 (by kernel_rfl)))
                  have HE := Aside0.mk Q_HE
                  have FT := Aside0.mk (Q_FT (hoff 20 (by kernel_rfl)))
                  have z1_ : 0 ≤ ax := BYX.out.1
                  have z2_ : ax < 256 := BYX.out.2
                  refine value_ (w1 := w') (v := .int .u8 ax) ?cA ?cB ?_ ?_
                  case cA => rfl
                  case cB => rfl
                  · go_simp
                    (try simp only [i64_w])
                    (try exact IntWalk.u8_in _ (by omega))
                    try rfl
                  refine hK.out _ _ ⟨gk_, g120_, v121_, m10_, m19_, m21_, (by rw [ha.out]; exact putSel_upk 16 hb_ rfl rfl rfl), Q_HBr, Q_RO101, Q_HE, Q_FT, Q_FK, fun h0_ => absurd ((hoff 19 (by kernel_rfl)).symm.trans h0_) (by decide), fun h0_ => absurd ((hoff 20 (by kernel_rfl)).symm.trans h0_) (by decide), fun h0_ _ => absurd ((hoff 19 (by kernel_rfl)).symm.trans h0_) (by decide), Q_X10_, fun h0_ => absurd ((hoff 19 (by kernel_rfl)).symm.trans h0_) (by decide), fun h0_ => absurd ((hoff 21 (by kernel_rfl)).symm.trans h0_) (by decide)⟩
                refine steps_cons ?_ ?_
                · rintro b a w' ⟨gk_, g120_, v121_, m10_, m19_, m21_, ha, Q_HBr, Q_RO101, Q_HE, Q_FT, Q_FK, Q_BL120, Q_RO121, Q_NE101_120, Q_X10_, Q_X19_, Q_X21_⟩ hb_ hon hoff
                  refine ⟨_, rfl, fun K hK => ?_⟩
                  have e9 : a.tmps[9]? = some (.int .i64 ay) := by rw [ha]; exact (putSel_off rfl).trans rfl
                  replace ha := Aside0.mk ha
                  have HBr := Aside0.mk Q_HBr
                  have RO101 := Aside0.mk (Q_RO101 (hoff 20 (by kernel_rfl)))
                  have HE := Aside0.mk Q_HE
                  have FT := Aside0.mk (Q_FT (hoff 20 (by kernel_rfl)))
                  refine value_ (w1 := w') (v := .int .i64 ay) ?cA ?cB ?_ ?_
                  case cA => rfl
                  case cB => rfl
                  · go_simp
                    (try simp only [i64_w])
                    (try exact IntWalk.u8_in _ (by omega))
                    try rfl
                  refine hK.out _ _ ⟨gk_, g120_, v121_, m10_, m19_, m21_, (by rw [ha.out]; exact putSel_upk 17 hb_ rfl rfl rfl), Q_HBr, Q_RO101, Q_HE, Q_FT, Q_FK, fun h0_ => absurd ((hoff 19 (by kernel_rfl)).symm.trans h0_) (by decide), fun h0_ => absurd ((hoff 20 (by kernel_rfl)).symm.trans h0_) (by decide), fun h0_ _ => absurd ((hoff 19 (by kernel_rfl)).symm.trans h0_) (by decide), Q_X10_, fun h0_ => absurd ((hoff 19 (by kernel_rfl)).symm.trans h0_) (by decide), fun h0_ => absurd ((hoff 21 (by kernel_rfl)).symm.trans h0_) (by decide)⟩
                refine steps_cons ?_ ?_
                · rintro b a w' ⟨gk_, g120_, v121_, m10_, m19_, m21_, ha, Q_HBr, Q_RO101, Q_HE, Q_FT, Q_FK, Q_BL120, Q_RO121, Q_NE101_120, Q_X10_, Q_X19_, Q_X21_⟩ hb_ hon hoff
                  refine ⟨_, rfl, fun K hK => ?_⟩
                  have e118 : a.tmps[118]? = some (.int .i64 ay) := by rw [ha]; exact putSel_on (e := (17, 118, .int .i64 ay)) 17 rfl rfl (hon 17 (by kernel_rfl)) rfl
                  replace ha := Aside0.mk ha
                  have HBr := Aside0.mk Q_HBr
                  have RO101 := Aside0.mk (Q_RO101 (hoff 20 (by kernel_rfl)))
                  have HE := Aside0.mk Q_HE
                  have FT := Aside0.mk (Q_FT (hoff 20 (by kernel_rfl)))
                  have z1_ : 0 ≤ ay := BYY.out.1
                  have z2_ : ay < 256 := BYY.out.2
                  refine value_ (w1 := w') (v := .int .u8 ay) ?cA ?cB ?_ ?_
                  case cA => rfl
                  case cB => rfl
                  · go_simp
                    (try simp only [i64_w])
                    (try exact IntWalk.u8_in _ (by omega))
                    try rfl
                  refine hK.out _ _ ⟨gk_, g120_, v121_, m10_, m19_, m21_, (by rw [ha.out]; exact putSel_upk 18 hb_ rfl rfl rfl), Q_HBr, Q_RO101, Q_HE, Q_FT, Q_FK, fun h0_ => absurd ((hoff 19 (by kernel_rfl)).symm.trans h0_) (by decide), fun h0_ => absurd ((hoff 20 (by kernel_rfl)).symm.trans h0_) (by decide), fun h0_ _ => absurd ((hoff 19 (by kernel_rfl)).symm.trans h0_) (by decide), Q_X10_, fun h0_ => absurd ((hoff 19 (by kernel_rfl)).symm.trans h0_) (by decide), fun h0_ => absurd ((hoff 21 (by kernel_rfl)).symm.trans h0_) (by decide)⟩
                refine steps_cons ?_ ?_
                · rintro b a w' ⟨gk_, g120_, v121_, m10_, m19_, m21_, ha, Q_HBr, Q_RO101, Q_HE, Q_FT, Q_FK, Q_BL120, Q_RO121, Q_NE101_120, Q_X10_, Q_X19_, Q_X21_⟩ hb_ hon hoff
                  refine ⟨_, rfl, fun K hK => ?_⟩
                  have e108 : a.tmps[108]? = some (.int .u8 t0) := by rw [ha]; exact putSel_on (e := (7, 108, .int .u8 t0)) 7 rfl rfl (hon 7 (by kernel_rfl)) rfl
                  have e115 : a.tmps[115]? = some (.int .u8 (idxI (kindsL x.f0.f0) kk)) := by rw [ha]; exact putSel_on (e := (14, 115, .int .u8 (idxI (kindsL x.f0.f0) kk))) 14 rfl rfl (hon 14 (by kernel_rfl)) rfl
                  have e117 : a.tmps[117]? = some (.int .u8 ax) := by rw [ha]; exact putSel_on (e := (16, 117, .int .u8 ax)) 16 rfl rfl (hon 16 (by kernel_rfl)) rfl
                  have e119 : a.tmps[119]? = some (.int .u8 ay) := by rw [ha]; exact putSel_on (e := (18, 119, .int .u8 ay)) 18 rfl rfl (hon 18 (by kernel_rfl)) rfl
                  replace ha := Aside0.mk ha
                  have HBr := Aside0.mk Q_HBr
                  have RO101 := Aside0.mk (Q_RO101 (hoff 20 (by kernel_rfl)))
                  have HE := Aside0.mk Q_HE
                  have FT := Aside0.mk (Q_FT (hoff 20 (by kernel_rfl)))
                  have FK := Aside0.mk (Q_FK (hon 10 (by kernel_rfl)) (hoff 20 (by kernel_rfl)))
                  refine event_step (w1 := w'.alloc (.cells #[.int .u8 t0, .int .u8 (idxI (kindsL x.f0.f0) kk), .int .u8 ax, .int .u8 ay] 5)) (v := .slice (some ⟨w'.heap.size, 0, none⟩) 4 4) (by rfl) ?_ ?_
                  · go_simp
                    try rfl
                  refine hK.out _ _ ⟨gk_, w'.heap.size, v121_, m10_, (.slice (some ⟨w'.heap.size, 0, none⟩) 4 4), m21_, (by rw [ha.out]; exact putSel_upk 19 hb_ rfl rfl rfl), below_step HBr.out (below_alloc (Below.refl w'.heap.size w') _), fun _ => Kd.R_below RO101.out (below_alloc (Below.refl w'.heap.size w') _), EW_below HE.out (below_alloc (Below.refl w'.heap.size w') _), fun _ => blk_below (below_alloc (Below.refl w'.heap.size w') _) FT.out, fun _ _ => Kd.C_below FK.out (below_alloc (Below.refl w'.heap.size w') _), fun _ => blk_new w' _, fun h0_ => absurd ((hoff 20 (by kernel_rfl)).symm.trans h0_) (by decide), fun _ h2_ => Kd.fresh_ok (Q_RO101 h2_) _ (Nat.le_refl _), Q_X10_, fun _ => rfl, fun h0_ => absurd ((hoff 21 (by kernel_rfl)).symm.trans h0_) (by decide)⟩
                refine steps_cons ?_ ?_
                · rintro b a w' ⟨gk_, g120_, v121_, m10_, m19_, m21_, ha, Q_HBr, Q_RO101, Q_HE, Q_FT, Q_FK, Q_BL120, Q_RO121, Q_NE101_120, Q_X10_, Q_X19_, Q_X21_⟩ hb_ hon hoff
                  refine ⟨_, rfl, fun K hK => ?_⟩
                  have e101 : a.tmps[101]? = some (v101_) := by rw [ha]; exact putSel_on (e := (0, 101, v101_)) 0 rfl rfl (hon 0 (by kernel_rfl)) rfl
                  have e120 : a.tmps[120]? = some (m19_) := by rw [ha]; exact putSel_on (e := (19, 120, m19_)) 19 rfl rfl (hon 19 (by kernel_rfl)) rfl
                  rw [Q_X19_ (hon 19 (by kernel_rfl))] at e120
                  replace ha := Aside0.mk ha
                  have HBr := Aside0.mk Q_HBr
                  have RO101 := Aside0.mk (Q_RO101 hb_)
                  have HE := Aside0.mk Q_HE
                  have FT := Aside0.mk (Q_FT hb_)
                  have FK := Aside0.mk (Q_FK (hon 10 (by kernel_rfl)) hb_)
                  have BL120 := Aside0.mk (Q_BL120 (hon 19 (by kernel_rfl)))
                  have NE101_120 := Aside0.mk (Q_NE101_120 (hon 19 (by kernel_rfl)) hb_)
                  refine Kd.R_append_rows_step (Kd.int .u8) (w0 := w) w.heap.size (by rfl) (.tmp 101) (.tmp 120) 40 5 _ _ rfl Tryd.underlying40 info5 rfl (by decide) (by decide) v101_ (out) ([t0, idxI (kindsL x.f0.f0) kk, ax, ay]) _ _ _ (fun _ => True) (fun _ => False) (by first | (go_simp; done) | (go_simp; rfl)) (by first | (go_simp; done) | (go_simp; rfl)) RO101.out (C_of_block (BL120.out) (Reps.cons (c := [_]) rfl rfl (Reps.cons (c := [_]) rfl rfl (Reps.cons (c := [_]) rfl rfl (Reps.cons (c := [_]) rfl rfl (Reps.none _ _))))) (by simp)) (fun _ _ h => h) (fun _ h => h.elim) (fun _ _ => trivial) HBr.out (below_size HBr.out) ((by have := HOL.out; simp only [List.length_cons, List.length_nil]; omega)) ?_
                  intro va_ w1 hR_ hB_ hg_ hat_
                  refine hK.out _ _ ⟨gk_, g120_, va_, m10_, m19_, m21_, (by rw [ha.out]; exact putSel_upk 20 hb_ rfl rfl rfl), hB_, fun h0_ => absurd ((up_self b 20).symm.trans h0_) (by decide), EW_grown HE.out RO101.out hg_ hB_, fun h0_ => absurd ((up_self b 20).symm.trans h0_) (by decide), fun _ h1_ => absurd ((up_self b 20).symm.trans h1_) (by decide), fun h_ => (hg_.block _ (blk_lt (Q_BL120 h_)) (Q_NE101_120 h_ hb_)).trans (Q_BL120 h_), fun _ => hR_, fun _ h1_ => absurd ((up_self b 20).symm.trans h1_) (by decide), Q_X10_, Q_X19_, fun h0_ => absurd ((hoff 21 (by kernel_rfl)).symm.trans h0_) (by decide)⟩
                refine steps_cons ?_ ?_
                · rintro b a w' ⟨gk_, g120_, v121_, m10_, m19_, m21_, ha, Q_HBr, Q_RO101, Q_HE, Q_FT, Q_FK, Q_BL120, Q_RO121, Q_NE101_120, Q_X10_, Q_X19_, Q_X21_⟩ hb_ hon hoff
                  refine ⟨_, rfl, fun K hK => ?_⟩
                  have e121 : a.tmps[121]? = some (v121_) := by rw [ha]; exact putSel_on (e := (20, 121, v121_)) 20 rfl rfl (hon 20 (by kernel_rfl)) rfl
                  replace ha := Aside0.mk ha
                  have HBr := Aside0.mk Q_HBr
                  have HE := Aside0.mk Q_HE
                  have BL120 := Aside0.mk (Q_BL120 (hon 19 (by kernel_rfl)))
                  have RO121 := Aside0.mk (Q_RO121 (hon 20 (by kernel_rfl)))
                  refine value_ (w1 := w') (v := v121_) ?cA ?cB ?_ ?_
                  case cA => rfl
                  case cB => rfl
                  · go_simp
                    (try simp only [i64_w])
                    (try exact IntWalk.u8_in _ (by omega))
                    try rfl
                  refine hK.out _ _ ⟨gk_, g120_, v121_, m10_, m19_, (v121_), (by rw [ha.out]; exact putSel_upk 21 hb_ rfl rfl rfl), Q_HBr, fun h0_ => absurd ((hon 20 (by kernel_rfl)).symm.trans h0_) (by decide), Q_HE, fun h0_ => absurd ((hon 20 (by kernel_rfl)).symm.trans h0_) (by decide), fun _ h1_ => absurd ((hon 20 (by kernel_rfl)).symm.trans h1_) (by decide), Q_BL120, Q_RO121, fun _ h1_ => absurd ((hon 20 (by kernel_rfl)).symm.trans h1_) (by decide), Q_X10_, Q_X19_, fun _ => rfl⟩
                exact steps_nil
              rintro b a w' hall ⟨gk_, g120_, v121_, m10_, m19_, m21_, ha, Q_HBr, Q_RO101, Q_HE, Q_FT, Q_FK, Q_BL120, Q_RO121, Q_NE101_120, Q_X10_, Q_X19_, Q_X21_⟩
              clear FT HBr HE RO101
              have hb0_ := hall 0 (by kernel_rfl)
              have hb1_ := hall 1 (by kernel_rfl)
              have hb2_ := hall 2 (by kernel_rfl)
              have hb3_ := hall 3 (by kernel_rfl)
              have hb4_ := hall 4 (by kernel_rfl)
              have hb5_ := hall 5 (by kernel_rfl)
              have hb6_ := hall 6 (by kernel_rfl)
              have hb7_ := hall 7 (by kernel_rfl)
              have hb8_ := hall 8 (by kernel_rfl)
              have hb9_ := hall 9 (by kernel_rfl)
              have hb10_ := hall 10 (by kernel_rfl)
              have hb11_ := hall 11 (by kernel_rfl)
              have hb12_ := hall 12 (by kernel_rfl)
              have hb13_ := hall 13 (by kernel_rfl)
              have hb14_ := hall 14 (by kernel_rfl)
              have hb15_ := hall 15 (by kernel_rfl)
              have hb16_ := hall 16 (by kernel_rfl)
              have hb17_ := hall 17 (by kernel_rfl)
              have hb18_ := hall 18 (by kernel_rfl)
              have hb19_ := hall 19 (by kernel_rfl)
              have hb20_ := hall 20 (by kernel_rfl)
              have hb21_ := hall 21 (by kernel_rfl)
              subst ha
              obtain rfl := Q_X10_ hb10_
              obtain rfl := Q_X19_ hb19_
              obtain rfl := Q_X21_ hb21_
              simp only [putSel, hb0_, hb1_, hb2_, hb3_, hb4_, hb5_, hb6_, hb7_, hb8_, hb9_, hb10_, hb11_, hb12_, hb13_, hb14_, hb15_, hb16_, hb17_, hb18_, hb19_, hb20_, hb21_, if_true, Act.put, List.setIfInBounds_toArray, List.set_cons_zero, List.set_cons_succ]
              have HBr := Aside0.mk Q_HBr
              clear Q_HBr
              clear Q_RO101
              have HE := Aside0.mk Q_HE
              clear Q_HE
              clear Q_FT
              clear Q_FK
              have BL120 := Aside0.mk (Q_BL120 hb19_)
              clear Q_BL120
              have RO121 := Aside0.mk (Q_RO121 hb20_)
              clear Q_RO121
              clear Q_NE101_120
              clear hall hb0_ hb1_ hb2_ hb3_ hb4_ hb5_ hb6_ hb7_ hb8_ hb9_ hb10_ hb11_ hb12_ hb13_ hb14_ hb15_ hb16_ hb17_ hb18_ hb19_ hb20_ hb21_
              go_wp2
              go_roundw
              case rel => exact ⟨jj + 1, _, rfl, by omega, by go_num, HE.out, by rw [HNX2.out]; exact RO121.out, by rw [HSN.out, List.all_append, HS.out]; simp [HQB.out]⟩
              case measure => simp [intOf]; omega
        · obtain rfl : jj = x.f1.length := by omega
          have hs := HS.out
          rw [List.take_length] at hs
          have hen : encB x = true := by unfold encB; rw [HQ.out, hs, decide_eq_true HSL.out]; rfl
          have HEN := Aside0.mk hen
          have HR := Aside0.mk hR
          clear hs HS hen hR
          go_wp2
          clear hy5
          go_loopw [5, 10] (fun o i wr => ∃ (j : Nat) (v101_ : Value), v101_ = o ∧ j ≤ x.f2.length ∧ i = .int .i64 j ∧ EW w wr x A5 c5 A6 c6 cb ∧ Kd.R (Kd.int .u8) 5 wr w.heap.size (fun _ => True) v101_ (enL x x.f1.length j)) (fun _ i _ => x.f2.length - (intOf i).toNat)
          case atStart => exact ⟨0, _, rfl, Nat.zero_le _, rfl, HE.out, HR.out⟩
          case round =>
            clear HR HE
            obtain ⟨j, v101_, hv101, hj, rfl, hE, hR⟩ := hrel
            subst hv101
            have HE := Aside0.mk hE
            have hy6 := (blk_cell HE.out.1 6).trans rfl
            clear hE
            by_cases hlt : j < x.f2.length
            · obtain ⟨ad, eA, q0⟩ := Kd.at_int (Kd.C_below P6.out HE.out.2.2) (j : Int) (by omega) (by omega)
              simp only [Int.toNat_natCast] at q0
              cases eA
              obtain ⟨y, hy⟩ : ∃ y, y = rd x.f2 (j : Int) := ⟨_, rfl⟩
              rw [← hy] at q0
              have hsn := take_snoc x.f2 0 j hlt
              rw [show x.f2.getD j 0 = y by rw [hy, rd_getD]] at hsn
              have hnx := enL_pick x x.f1.length j y hsn
              have hmem : y ∈ x.f2 := by rw [hy, rd_getD]; simp [List.getD, hlt]
              have hyb := of_decide_eq_true (List.all_eq_true.1 HPG.out y hmem)
              obtain ⟨out, hout⟩ : ∃ out, out = enL x x.f1.length j := ⟨_, rfl⟩
              have hol : out.length ≤ 5000 := by rw [hout, enL_len x _ j (Nat.le_refl _) (by omega)]; omega
              rw [← hout] at hR
              have hy0 : 0 ≤ y := hyb.1
              have hy1 : y < 256 := by omega
              have hlk : (j : Int) < (x.f2.length : Int) := by omega
              have HNX := Aside0.mk hnx
              have HOUT := Aside0.mk hout
              have HR := Aside0.mk hR
              clear hnx hout hsn hmem hyb hR hy
              go_wp2_with ((with_reducible refine gate_builtin (b := .append) (xs := #[.tmp 129, .tmp 136]) rfl ?_); at_builtin; refine Kd.R_append (Kd.int .u8) (w0 := w) w.heap.size rfl (.tmp 129) (.tmp 136) 40 5 _ _ rfl Tryd.underlying40 info5 rfl (by decide) (by decide) v101_ out y [.int .u8 y] (fun _ => True) (fun _ => False) rfl (by first | (go_simp; done) | (go_simp; rfl)) rfl (fun _ hk => hk.elim) (fun _ _ => trivial) HR.out HE.out.2.2 (below_size HE.out.2.2) (by omega) ?_; intro v3 w3 ho hb hg hat)
              go_roundw
              case rel => exact ⟨j + 1, _, rfl, by omega, by go_num, EW_grown HE.out HR.out hg hb, by rw [HNX.out, ← HOUT.out]; exact ho⟩
              case measure => simp [intOf]; omega
            · obtain rfl : j = x.f2.length := by omega
              obtain ⟨A7, c7, rfl⟩ := Kd.R_slice hR
              have hS := Sl_R hR
              obtain ⟨A8, c8, e8, _, C8⟩ := hS
              injection e8 with e81 e82 e83
              subst e81
              have hcv := Kd.C_string (P := Tryd.prog) (c := c7) Tryd.underlying40 Tryd.underlying5 Tryd.underlying9 C8
              clear hR C8 e82 e83
              go_wp2
              go_ret2
              exact ⟨_, _, rfl, (fun _ => ⟨rfl, rfl⟩), (fun h => by rw [HEN.out] at h; cases h), HE.out.2.2⟩
    · have hn : encB x = false := by unfold encB; rw [decide_eq_false hsl]; simp
      have HN := Aside0.mk hn
      clear hn
      have hsl2 : x.f0.f3 > 255 := by omega
      go_wp2
      go_ret2
      exact ⟨_, _, rfl, (fun h => by rw [HN.out] at h; cases h), (fun _ => ⟨rfl, rfl⟩), HB.out⟩
end Go.Proofs.YtlcfkdglknkbdaaDoor.Lo
