/- Place, Path, wrapped, Back. -/
import Derived.Test.YtlednfddidpcdaaDoorWoC
namespace Go.Proofs.YtlednfddidpcdaaDoor.Wo
open Go.RowKit Go.Extern.Stop Go.Stop Go.Extern Go.Proofs.YtlednfddidpcdaaDoorW.PrintWords Go.Proofs.YtlednfddidpcdaaDoorW.PrintLast Go.Proofs.YtlednfddidpcdaaDoorW.PrintMore Go.Proofs.YtlednfddidpcdaaDoor.X
set_option linter.unusedVariables false
set_option linter.unusedSimpArgs false

/-- What Place answers. -/
def plc (ps : List Int) : Int := match ps with
  | [] => 0
  | p :: _ => p
theorem place_ch (s : Nat → Addr) (b : Addr) (ps : List Int) (v : Value) (w : World) (hs : Sents w s) (hc : Ch w b ps v) :
    Calls Tryd.prog 11 #[v] w fun e w' => e = .returned (.tuple #[.int .i64 (plc ps), .bool (!ps.isEmpty)]) ∧ Below w.heap.size w w' := by
  have hb0 := below_alloc (Below.refl w.heap.size w) (.cells #[.pointer none] 41)
  have hT := blk_new w (.cells #[.pointer none] 41)
  have hG := (hs.below hb0).typ
  cases ps with
  | nil =>
    obtain rfl : v = Sent b := hc
    have H := Aside0.mk (as_sent b w.heap.size _ hG)
    have HB0 := Aside0.mk hb0
    clear hb0
    clear hT hG hs
    go_enter Tryd.func11, Tryd.ntmps11
    go_wp2_with fail
    refine H.out.mono ?_
    rintro e w1 ⟨rfl, hb⟩
    go_wp2
    go_ret2
    exact ⟨rfl, below_step HB0.out hb⟩
  | cons p ps =>
    have hc2 := Ch_below hc hb0
    obtain ⟨g, u, rfl, hg, _⟩ := hc2
    have H := Aside0.mk (as_woe g w.heap.size _ _ hT hG)
    have hgl := blk_lt hg
    have hgt : g ≠ w.heap.size := fun e => by subst e; rw [hg] at hT; simp at hT
    have HB0 := Aside0.mk hb0
    clear hb0
    have HG := Aside0.mk hg
    clear hg
    have HT := Aside0.mk hT
    clear hT
    clear hG hs hc
    go_enter Tryd.func11, Tryd.ntmps11
    go_wp2_with fail
    refine H.out.mono ?_
    rintro e w1 ⟨rfl, hU⟩
    have c0 := (blk_cell hU.2 0).trans rfl
    have hg1 := (hU.1.block g hgl (fun e => hgt (by injection e))).trans HG.out
    have c1 := (blk_cell hg1 0).trans rfl
    have hB1 := bel_grown HB0.out hU.1 (fun k hk => by injection hk with hk; omega) HB0.out.size
    have HG1 := Aside0.mk hg1
    clear hg1
    have HB1 := Aside0.mk hB1
    clear hB1
    have HU := Aside0.mk hU
    clear hU
    clear hgl
    go_wp2
    go_ret2
    exact ⟨rfl, HB1.out⟩
theorem place_nil (w : World) : Calls Tryd.prog 11 #[.nilIface] w fun e w' => e = .returned (.tuple #[.int .i64 0, .bool false]) ∧ Below w.heap.size w w' := by
  have H := Aside0.mk (as_nil (Tgt w.heap.size) (w.alloc (.cells #[.pointer none] 41)))
  go_enter Tryd.func11, Tryd.ntmps11
  go_wp2_with fail
  refine H.out.mono ?_
  rintro e w1 ⟨rfl, rfl⟩
  go_wp2
  go_ret2
  exact ⟨rfl, below_alloc (Below.refl _ _) _⟩
/-! ### Path -/
set_option maxHeartbeats 2000000 in
theorem path_ch (s : Nat → Addr) (b : Addr) (ps : List Int) (v : Value) (w : World) (hs : Sents w s) (hc : Ch w b ps v) (hlim : ps.length ≤ 1000000) :
    Calls Tryd.prog 13 #[v] w fun e w' => ∃ u : Value, e = .returned u ∧ Kd.R (Kd.int .i64) 3 w' w.heap.size (fun _ => True) u ps ∧ Below w.heap.size w w' := by
  have hb0 := below_alloc (Below.refl w.heap.size w) (.cells #[.pointer none] 41)
  have hT := blk_new w (.cells #[.pointer none] 41)
  have hc0 := Ch_below hc hb0
  obtain ⟨T, x, rfl⟩ := Ch_shape hc
  have HS := Aside0.mk hs
  clear hs
  have HC := Aside0.mk hc
  clear hc
  have HB0 := Aside0.mk hb0
  clear hb0
  have HT := Aside0.mk hT
  clear hT
  have HC0 := Aside0.mk hc0
  clear hc0
  go_enter Tryd.func13, Tryd.ntmps13
  go_wp2
  go_loopw [0, 2] (fun v0 o wr => ∃ (ps0 ps1 : List Int) (u0 : Value), ps = ps0 ++ ps1 ∧ Ch wr b ps1 v0 ∧ wr.heap[w.heap.size]? = some (.cells #[u0] 41 (0, 0)) ∧ Kd.R (Kd.int .i64) 3 wr w.heap.size (fun _ => True) o ps0 ∧ Below w.heap.size w wr) (fun v0 _ wr => clen wr v0)
  case atStart => exact ⟨[], ps, _, rfl, HC0.out, HT.out, Kd.R_nil _ _ _ _ _, HB0.out⟩
  case round =>
    clear HB0 HT HC0
    obtain ⟨ps0, ps1, tv, hps, hc1, hT1, hR, hB⟩ := hrel
    have hG := (HS.out.below hB).typ
    have hsz : w.heap.size < wr.heap.size := blk_lt hT1
    have hl0 : ps0.length ≤ ps.length := by rw [hps]; simp
    cases ps1 with
    | nil =>
      obtain rfl : u0 = Sent b := hc1
      have HPS := Aside0.mk hps
      clear hps
      have HT1 := Aside0.mk hT1
      clear hT1
      have HR := Aside0.mk hR
      clear hR
      have HB := Aside0.mk hB
      clear hB
      go_wp2_with fail
      refine (as_sent b w.heap.size _ hG).mono ?_
      rintro e w1 ⟨rfl, hb⟩
      go_wp2
      go_ret
      have hp := HPS.out
      rw [List.append_nil] at hp
      exact ⟨_, rfl, by rw [hp]; exact Kd.R_below HR.out hb, bel HB.out HB.out.size hb⟩
    | cons p ps1 =>
      have hcl := clen_eq hc1
      obtain ⟨g, u, rfl, hg, hc2⟩ := hc1
      obtain ⟨T2, x2, rfl⟩ := Ch_shape hc2
      have hgl := blk_lt hg
      have hgt : g ≠ w.heap.size := fun e => by subst e; rw [hg] at hT1; simp at hT1
      have H := Aside0.mk (as_woe g w.heap.size _ wr hT1 hG)
      have HPS := Aside0.mk hps
      clear hps
      have HR := Aside0.mk hR
      clear hR
      have HB := Aside0.mk hB
      clear hB
      have HC2 := Aside0.mk hc2
      clear hc2
      have HG := Aside0.mk hg
      clear hg
      have HT1 := Aside0.mk hT1
      clear hT1
      have HCL := Aside0.mk hcl
      clear hcl
      clear hG
      go_wp2_with fail
      refine H.out.mono ?_
      rintro e w1 ⟨rfl, hU⟩
      have hT2 := hU.2
      have c0 := (blk_cell hT2 0).trans rfl
      have hg2 := (hU.1.block g hgl (fun e => hgt (by injection e))).trans HG.out
      have c1 := (blk_cell hg2 0).trans rfl
      have hR2 := R_other (by rfl) HR.out hU.1 (fun k hk he => Kd.R_ne HR.out HT1.out (by decide) (by rw [hk, he]))
      have hB2 := bel_grown HB.out hU.1 (fun k hk => by injection hk with hk; omega) HB.out.size
      have hc4 := Ch_upd HC2.out HT1.out hU
      have hn1 := Kd.R_ne hR2 hT2 (by decide)
      have hn2 := Kd.R_ne hR2 hg2 (by decide)
      have hl1 : ps0.length ≤ 1000000 := by omega
      have HT2 := Aside0.mk hT2
      clear hT2
      have HG2 := Aside0.mk hg2
      clear hg2
      have HR2 := Aside0.mk hR2
      clear hR2
      have HB2 := Aside0.mk hB2
      clear hB2
      have HC4 := Aside0.mk hc4
      clear hc4
      have HN1 := Aside0.mk hn1
      clear hn1
      have HN2 := Aside0.mk hn2
      clear hn2
      clear hU
      go_wp2_with ((with_reducible refine gate_builtin (b := .append) (xs := #[.tmp 7, .tmp 12]) rfl ?_); at_builtin; refine Kd.R_append (Kd.int .i64) (w0 := w) w.heap.size rfl (.tmp 7) (.tmp 12) 22 3 _ _ rfl Tryd.underlying22 info3 rfl (by decide) (by omega) u2 ps0 p [.int .i64 p] (fun _ => True) (fun _ => False) rfl (by first | (go_simp; done) | (go_simp; rfl)) rfl (fun _ hk => hk.elim) (fun _ _ => trivial) HR2.out HB2.out (below_size HB2.out) (by omega) ?_; intro v3 w3 ho hb hg hat; have hT3 := blk_grownBy hg HN1.out HT2.out; have c2 := (blk_cell hT3 0).trans rfl; have hg3 := blk_grownBy hg HN2.out HG2.out; have c3 := (blk_cell hg3 1).trans rfl; have HT3 := Aside0.mk hT3; have HG3 := Aside0.mk hg3; have HR3 := Aside0.mk ho; have HB3 := Aside0.mk hb; have HC3 := Aside0.mk (Ch_keep (fun k c hk => hg.block k (blk_lt hk) (Kd.R_ne HR2.out hk (by decide))) _ _ HC4.out); clear ho hb hg hat hT3 hg3)
      have hcl3 := clen_eq HC3.out
      have HCL3 := Aside0.mk hcl3
      clear hcl3
      go_roundw
      case rel => exact ⟨ps0 ++ [p], ps1, _, by rw [HPS.out]; simp, HC3.out, HT3.out, HR3.out, HB3.out⟩
      case measure =>
        show clen w3 (.iface T2 x2) < clen wr (AtPlace g)
        rw [HCL.out, HCL3.out]; simp
theorem path_nil (w : World) : Calls Tryd.prog 13 #[.nilIface] w fun e w' => e = .returned (.slice none 0 0) ∧ Below w.heap.size w w' := by
  go_enter Tryd.func13, Tryd.ntmps13
  go_wp2
  refine wp_loop_rounds 1 ?_
  rw [rounds_succ]
  go_wp2_with fail
  refine (as_nil _ _).mono ?_
  rintro e w1 ⟨rfl, rfl⟩
  go_wp2
  go_ret
  exact ⟨rfl, below_alloc (Below.refl _ _) _⟩
end Go.Proofs.YtlednfddidpcdaaDoor.Wo
