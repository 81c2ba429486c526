/- Errors wrapped at places: chains; errors.Is over them. -/
import Derived.Test.YtlednfddidpcdaaDoorWaB
import Derived.Test.YtlednfddidpcdaaDoorSt
namespace Go.Proofs.YtlednfddidpcdaaDoor.Wo
open Go.RowKit Go.Extern.Stop Go.Stop Go.Extern Go.Proofs.YtlednfddidpcdaaDoorW.PrintWords Go.Proofs.YtlednfddidpcdaaDoor.X
set_option linter.unusedVariables false
set_option linter.unusedSimpArgs false

/-- The sentinel b, wrapped at places, the outermost first. -/
def Ch (w : World) (b : Addr) : List Int → Value → Prop
  | [], v => v = Sent b
  | p :: ps, v => ∃ (g : Nat) (u : Value), v = AtPlace g ∧ w.heap[g]? = some (.cells #[.int .i64 p, u] 45 (0, 0)) ∧ Ch w b ps u
theorem Ch_keep {w w1 : World} {b : Addr} (h : ∀ (g : Nat) (c : Array Value), w.heap[g]? = some (Obj.cells c 45 (0, 0)) → w1.heap[g]? = w.heap[g]?) : ∀ (ps : List Int) (v : Value), Ch w b ps v → Ch w1 b ps v
  | [], _, hc => hc
  | p :: ps, v, ⟨g, u, e, hg, hc⟩ => ⟨g, u, e, (h g _ hg).trans hg, Ch_keep h ps u hc⟩
theorem Ch_below {w w1 : World} {b : Addr} {ps : List Int} {v : Value} (h : Ch w b ps v) (hb : Below w.heap.size w w1) : Ch w1 b ps v :=
  Ch_keep (fun g c hg => hb.block g (blk_lt hg)) ps v h
theorem Ch_upd {w w1 : World} {b : Addr} {ps : List Int} {v u x : Value} {tb : Nat} (h : Ch w b ps v) (hT : w.heap[tb]? = some (.cells #[u] 41 (0, 0))) (hu : Upd w w1 tb x) : Ch w1 b ps v :=
  Ch_keep (fun g c hg => hu.1.block g (blk_lt hg) (fun e => by injection e with e; subst e; rw [hT] at hg; simp at hg)) ps v h
theorem Ch_shape {w : World} {b : Addr} : ∀ {ps : List Int} {v : Value}, Ch w b ps v → ∃ T x, v = .iface T x
  | [], _, h => ⟨_, _, h⟩
  | p :: ps, v, ⟨g, u, e, _, _⟩ => ⟨_, _, e⟩
theorem Ch_uniq {w : World} : ∀ {b c : Addr} (ps qs : List Int) {v : Value}, Ch w b ps v → Ch w c qs v → ps = qs ∧ b = c
  | b, c, [], [], v, h, h' => by
    have h1 : Sent b = Sent c := (show v = Sent b from h).symm.trans h'
    simp at h1
    exact ⟨rfl, h1⟩
  | b, c, [], q :: qs, v, h, ⟨g, u, e, _, _⟩ => by
    have h1 : Sent b = AtPlace g := (show v = Sent b from h).symm.trans e
    simp at h1
  | b, c, p :: ps, [], v, ⟨g, u, e, _, _⟩, h => by
    have h1 : Sent c = AtPlace g := (show v = Sent c from h).symm.trans e
    simp at h1
  | b, c, p :: ps, q :: qs, v, ⟨g, u, e, hg, hc⟩, ⟨g', u', e', hg', hc'⟩ => by
    have h1 : AtPlace g = AtPlace g' := e.symm.trans e'
    obtain rfl : g = g' := by simpa using h1
    rw [hg] at hg'
    simp at hg'
    obtain ⟨rfl, rfl⟩ := hg'
    obtain ⟨rfl, rfl⟩ := Ch_uniq ps qs hc hc'
    exact ⟨rfl, rfl⟩
open Classical in
noncomputable def clen (w : World) (v : Value) : Nat := if h : ∃ n b ps, Ch w b ps v ∧ ps.length = n then h.choose else 0
theorem clen_eq {w : World} {b : Addr} {ps : List Int} {v : Value} (h : Ch w b ps v) : clen w v = ps.length := by
  have hx : ∃ n b ps, Ch w b ps v ∧ ps.length = n := ⟨_, b, ps, h, rfl⟩
  unfold clen
  rw [dif_pos hx]
  obtain ⟨b', ps', h', e⟩ := hx.choose_spec
  rw [← e, (Ch_uniq ps' ps h' h).1]
/-- A sentinel's block. -/
def Blk (w : World) (a : Addr) : Prop := ∃ c t, w.heap[a.block]? = some (.cells c t (0, 0))
theorem Blk_below {w w1 : World} {a : Addr} (h : Blk w a) (hb : Below w.heap.size w w1) : Blk w1 a := by
  obtain ⟨c, t, h⟩ := h
  exact ⟨c, t, blk_below hb h⟩
set_option maxHeartbeats 2000000 in
theorem is_loop (a b : Addr) (ps : List Int) (v : Value) (w : World) (hc : Ch w b ps v) (ha : Blk w a) (hb : Blk w b) :
    Calls Tryd.prog 25 #[v, Sent a, .bool true] w fun e w' => e = .returned (.bool (decide (b = a))) ∧ w' = w := by
  obtain ⟨i, hi, hcmp⟩ := Option.map_eq_some_iff.1 er_compS
  obtain ⟨j, hj, hjs⟩ := Option.map_eq_some_iff.1 er_sizeS
  have hu := Tryd.underlying45
  have nE := er_noIsS
  have uE := er_noUnwrapS
  have vE := er_noUnwrapsS
  have nW := er_noIsW
  have uW := er_unwrapW
  have mU := er_methodW
  have heq : ∀ w', w' = w → (binOp .eql 25 (Sent b) (Sent a)).run Tryd.prog w' = .ok (.bool (decide (b = a))) w' := by
    rintro w' rfl
    by_cases hba : b = a
    · subst hba
      rw [decide_eq_true rfl]
      exact run_eql_iface_ptr_same (P := Tryd.prog) w' b Tryd.underlying25 Tryd.underlying55 hi hcmp hj
    · rw [decide_eq_false hba]
      obtain ⟨ca, ta, ha⟩ := ha
      obtain ⟨cb, tb, hb⟩ := hb
      exact run_eql_iface_ptr_other (P := Tryd.prog) w' Tryd.underlying25 Tryd.underlying55 hi hcmp hj (by rw [hjs]; decide) hba hb ha
  go_enter Tryd.func25, Tryd.ntmps25
  go_wp2
  go_loopw [0] (fun v0 wr => wr = w ∧ ∃ ps0, Ch w b ps0 v0) (fun v0 _ => clen w v0)
  case atStart => exact ⟨rfl, ps, hc⟩
  case round =>
    obtain ⟨rfl, ps0, hc0⟩ := hrel
    have heq1 := heq wr rfl
    clear heq
    cases ps0 with
    | nil =>
      obtain rfl : u0 = Sent b := hc0
      cases hd : decide (b = a)
      all_goals
        rw [hd] at heq1
        have HD := Aside0.mk hd
        clear hd
        have HC := Aside0.mk hc
        clear hc
        go_wp2
        go_ret
        exact ⟨by rw [HD.out]; rfl, rfl⟩
    | cons p ps1 =>
      have hcl := clen_eq hc0
      obtain ⟨g, u, rfl, hg, hc1⟩ := hc0
      have hcl1 := clen_eq hc1
      obtain ⟨T, x, rfl⟩ := Ch_shape hc1
      have hty := run_eql_iface_types (P := Tryd.prog) 41 55 (.pointer (some ⟨g, 0, none⟩)) (.pointer (some a)) Tryd.underlying25 (by decide) wr
      have hg1 := (blk_cell hg 1).trans rfl
      have HCL := Aside0.mk hcl
      clear hcl
      have HCL1 := Aside0.mk hcl1
      clear hcl1
      have HC1 := Aside0.mk hc1
      clear hc1
      have HC := Aside0.mk hc
      clear hc
      have HG := Aside0.mk hg
      clear hg
      have HEQ1 := Aside0.mk heq1
      clear heq1
      go_wp2
      go_roundw
      case rel => exact ⟨trivial, ps1, HC1.out⟩
      case measure =>
        show clen wr (.iface T x) < clen wr (AtPlace g)
        rw [HCL.out, HCL1.out]; simp
/-- errors.Is over a chain. -/
theorem is_chain {a b : Addr} {ps : List Int} {v : Value} {w : World} (hc : Ch w b ps v) (ha : Blk w a) (hb : Blk w b) :
    Calls Tryd.prog 16 #[v, Sent a] w fun e w' => e = .returned (.bool (decide (b = a))) ∧ w' = w := by
  have h8 := @run_callFunc_extern Tryd.prog 24 _ Extern.ReflectliteType.typeOf Tryd.func24 (by kernel_rfl) (by kernel_rfl) (by kernel_rfl) (by kernel_rfl)
  have h32 := @run_callFunc_extern Tryd.prog 57 _ er_comp Tryd.func57 (by kernel_rfl) (by kernel_rfl) (by kernel_rfl) (by kernel_rfl)
  have tT := er_typeOf
  have cT := er_comparable
  have mR := er_methodComparable
  have H := Aside0.mk (is_loop a b ps v w hc ha hb)
  obtain ⟨T, x, rfl⟩ := Ch_shape hc
  clear hc ha hb
  go_enter Tryd.func16, Tryd.ntmps16
  go_wp2_with fail
  refine H.out.mono ?_
  rintro e w1 ⟨rfl, rfl⟩
  go_wp2
  go_ret
  exact ⟨rfl, rfl⟩
end Go.Proofs.YtlednfddidpcdaaDoor.Wo
