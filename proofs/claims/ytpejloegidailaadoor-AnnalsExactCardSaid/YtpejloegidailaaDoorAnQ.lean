/- Errors wrapped at places: chains; errors.Is over them; woe.Code. (Of the Woe seat's texts.) -/
import Derived.Test.YtpejloegidailaaDoorAnP
import Derived.Test.YtpejloegidailaaDoorSt
namespace Go.Proofs.YtpejloegidailaaDoor.Wo
open Go.RowKit Go.Extern.Stop Go.Stop Go.Extern Go.Proofs.YtpejloegidailaaDoorW.PrintWords Go.Proofs.YtpejloegidailaaDoor.X
set_option linter.unusedVariables false
set_option linter.unusedSimpArgs false

/-- The sentinel b, wrapped at places, the outermost first. -/
def Ch (w : World) (b : Addr) : List Int → Value → Prop
  | [], v => v = Sent b
  | p :: ps, v => ∃ (g : Nat) (u : Value), v = AtPlace g ∧ w.heap[g]? = some (.cells #[.int .i64 p, u] 77 (0, 0)) ∧ Ch w b ps u
theorem Ch_keep {w w1 : World} {b : Addr} (h : ∀ (g : Nat) (c : Array Value), w.heap[g]? = some (Obj.cells c 77 (0, 0)) → w1.heap[g]? = w.heap[g]?) : ∀ (ps : List Int) (v : Value), Ch w b ps v → Ch w1 b ps v
  | [], _, hc => hc
  | p :: ps, v, ⟨g, u, e, hg, hc⟩ => ⟨g, u, e, (h g _ hg).trans hg, Ch_keep h ps u hc⟩
theorem Ch_below {w w1 : World} {b : Addr} {ps : List Int} {v : Value} (h : Ch w b ps v) (hb : Below w.heap.size w w1) : Ch w1 b ps v :=
  Ch_keep (fun g c hg => hb.block g (blk_lt hg)) ps v h
theorem Ch_shape {w : World} {b : Addr} : ∀ {ps : List Int} {v : Value}, Ch w b ps v → ∃ T x, v = .iface T x
  | [], _, h => ⟨_, _, h⟩
  | p :: ps, v, ⟨g, u, e, _, _⟩ => ⟨_, _, e⟩
theorem Ch_uniq {w : World} : ∀ {b c : Addr} (ps qs : List Int) {v : Value}, Ch w b ps v → Ch w c qs v → ps = qs ∧ b = c
  | b, c, [], [], v, h, h' => by
    have h1 : Sent b = Sent c := (show v = Sent b from h).symm.trans h'
    simp at h1
    exact ⟨rfl, h1⟩
  | b, c, [], q :: qs, v, h, ⟨g, u, e, _, _⟩ => by
    have h1 : Sent b = AtPlace g := (show v = Sent b from h).symm.trans e
    simp at h1
  | b, c, p :: ps, [], v, ⟨g, u, e, _, _⟩, h => by
    have h1 : Sent c = AtPlace g := (show v = Sent c from h).symm.trans e
    simp at h1
  | b, c, p :: ps, q :: qs, v, ⟨g, u, e, hg, hc⟩, ⟨g', u', e', hg', hc'⟩ => by
    have h1 : AtPlace g = AtPlace g' := e.symm.trans e'
    obtain rfl : g = g' := by simpa using h1
    rw [hg] at hg'
    simp at hg'
    obtain ⟨rfl, rfl⟩ := hg'
    obtain ⟨rfl, rfl⟩ := Ch_uniq ps qs hc hc'
    exact ⟨rfl, rfl⟩
open Classical in
noncomputable def clen (w : World) (v : Value) : Nat := if h : ∃ n b ps, Ch w b ps v ∧ ps.length = n then h.choose else 0
theorem clen_eq {w : World} {b : Addr} {ps : List Int} {v : Value} (h : Ch w b ps v) : clen w v = ps.length := by
  have hx : ∃ n b ps, Ch w b ps v ∧ ps.length = n := ⟨_, b, ps, h, rfl⟩
  unfold clen
  rw [dif_pos hx]
  obtain ⟨b', ps', h', e⟩ := hx.choose_spec
  rw [← e, (Ch_uniq ps' ps h' h).1]
/-- A sentinel's block. -/
def Blk (w : World) (a : Addr) : Prop := ∃ c t, w.heap[a.block]? = some (.cells c t (0, 0))
theorem Blk_below {w w1 : World} {a : Addr} (h : Blk w a) (hb : Below w.heap.size w w1) : Blk w1 a := by
  obtain ⟨c, t, h⟩ := h
  exact ⟨c, t, blk_below hb h⟩
set_option maxHeartbeats 2000000 in
theorem is_loop (a b : Addr) (ps : List Int) (v : Value) (w : World) (hc : Ch w b ps v) (ha : Blk w a) (hb : Blk w b) :
    Calls Tryd.prog 34 #[v, Sent a, .bool true] w fun e w' => e = .returned (.bool (decide (b = a))) ∧ w' = w := by
  obtain ⟨i, hi, hcmp⟩ := Option.map_eq_some_iff.1 er_compS
  obtain ⟨j, hj, hjs⟩ := Option.map_eq_some_iff.1 er_sizeS
  have hu := Tryd.underlying77
  have nE := er_noIsS
  have uE := er_noUnwrapS
  have vE := er_noUnwrapsS
  have nW := er_noIsW
  have uW := er_unwrapW
  have mU := er_methodW
  have heq : ∀ w', w' = w → (binOp .eql 26 (Sent b) (Sent a)).run Tryd.prog w' = .ok (.bool (decide (b = a))) w' := by
    rintro w' rfl
    by_cases hba : b = a
    · subst hba
      rw [decide_eq_true rfl]
      exact run_eql_iface_ptr_same (P := Tryd.prog) w' b Tryd.underlying26 Tryd.underlying90 hi hcmp hj
    · rw [decide_eq_false hba]
      obtain ⟨ca, ta, ha⟩ := ha
      obtain ⟨cb, tb, hb⟩ := hb
      exact run_eql_iface_ptr_other (P := Tryd.prog) w' Tryd.underlying26 Tryd.underlying90 hi hcmp hj (by rw [hjs]; decide) hba hb ha
  go_enter Tryd.func34, Tryd.ntmps34
  go_wp2
  go_loopw [0] (fun v0 wr => wr = w ∧ ∃ ps0, Ch w b ps0 v0) (fun v0 _ => clen w v0)
  case atStart => exact ⟨rfl, ps, hc⟩
  case round =>
    obtain ⟨rfl, ps0, hc0⟩ := hrel
    have heq1 := heq wr rfl
    clear heq
    cases ps0 with
    | nil =>
      obtain rfl : u0 = Sent b := hc0
      cases hd : decide (b = a)
      all_goals
        rw [hd] at heq1
        have HD := Aside0.mk hd
        clear hd
        have HC := Aside0.mk hc
        clear hc
        go_wp2
        go_ret
        exact ⟨by rw [HD.out]; rfl, rfl⟩
    | cons p ps1 =>
      have hcl := clen_eq hc0
      obtain ⟨g, u, rfl, hg, hc1⟩ := hc0
      have hcl1 := clen_eq hc1
      obtain ⟨T, x, rfl⟩ := Ch_shape hc1
      have hty := run_eql_iface_types (P := Tryd.prog) 75 90 (.pointer (some ⟨g, 0, none⟩)) (.pointer (some a)) Tryd.underlying26 (by decide) wr
      have hg1 := (blk_cell hg 1).trans rfl
      have HCL := Aside0.mk hcl
      clear hcl
      have HCL1 := Aside0.mk hcl1
      clear hcl1
      have HC1 := Aside0.mk hc1
      clear hc1
      have HC := Aside0.mk hc
      clear hc
      have HG := Aside0.mk hg
      clear hg
      have HEQ1 := Aside0.mk heq1
      clear heq1
      go_wp2
      go_roundw
      case rel => exact ⟨trivial, ps1, HC1.out⟩
      case measure =>
        show clen wr (.iface T x) < clen wr (AtPlace g)
        rw [HCL.out, HCL1.out]; simp
/-- errors.Is over a chain. -/
theorem is_chain {a b : Addr} {ps : List Int} {v : Value} {w : World} (hc : Ch w b ps v) (ha : Blk w a) (hb : Blk w b) :
    Calls Tryd.prog 21 #[v, Sent a] w fun e w' => e = .returned (.bool (decide (b = a))) ∧ w' = w := by
  have h8 := @run_callFunc_extern Tryd.prog 33 _ Extern.ReflectliteType.typeOf Tryd.func33 (by kernel_rfl) (by kernel_rfl) (by kernel_rfl) (by kernel_rfl)
  have h32 := @run_callFunc_extern Tryd.prog 56 _ er_comp Tryd.func56 (by kernel_rfl) (by kernel_rfl) (by kernel_rfl) (by kernel_rfl)
  have tT := er_typeOf
  have cT := er_comparable
  have mR := er_methodComparable
  have H := Aside0.mk (is_loop a b ps v w hc ha hb)
  obtain ⟨T, x, rfl⟩ := Ch_shape hc
  clear hc ha hb
  go_enter Tryd.func21, Tryd.ntmps21
  go_wp2_with fail
  refine H.out.mono ?_
  rintro e w1 ⟨rfl, rfl⟩
  go_wp2
  go_ret
  exact ⟨rfl, rfl⟩
/-- The global of a sentinel's number less one. -/
def gno (k : Nat) : Nat := [0, 2, 3, 4, 1, 5, 6, 7, 8, 9, 10].getD k 0
structure Sents (w : World) (s : Nat → Addr) : Prop where
  cell : ∀ k, k < 11 → w.cell? ⟨gno k, 0, none⟩ = some (Sent (s (k + 1)))
  blk : ∀ k, k < 11 → Blk w (s (k + 1))
  inj : ∀ j k, j < 11 → k < 11 → s (j + 1) = s (k + 1) → j = k
theorem Sents.below {w0 w : World} {s : Nat → Addr} (h : Sents w0 s) (hb : Below w0.heap.size w0 w) : Sents w s :=
  ⟨fun k hk => pw_cell_below hb (h.cell k hk), fun k hk => by
    obtain ⟨c, t, hh⟩ := h.blk k hk
    exact ⟨c, t, blk_below hb hh⟩, h.inj⟩
theorem of_yes (s : Nat → Addr) (k : Nat) (hk : k < 11) (c : Int) (hck : c = (k : Int) + 1) (w : World) (hs : Sents w s) : Calls Tryd.prog 32 #[.int .i64 c] w fun e w' => e = .returned (Sent (s (k + 1))) ∧ w' = w := by
  have hc := hs.cell k hk
  clear hs
  have hk' : k = 0 ∨ k = 1 ∨ k = 2 ∨ k = 3 ∨ k = 4 ∨ k = 5 ∨ k = 6 ∨ k = 7 ∨ k = 8 ∨ k = 9 ∨ k = 10 := by omega
  rcases hk' with rfl | rfl | rfl | rfl | rfl | rfl | rfl | rfl | rfl | rfl | rfl
  all_goals
    simp at hck
    subst hck
    simp [gno] at hc
    clear hk
    go_enter Tryd.func32, Tryd.ntmps32
    go_wp2
    go_ret
    exact ⟨rfl, rfl⟩
set_option maxHeartbeats 2000000 in
/-- The number of a chain's sentinel: n is how many numbers it is none of. -/
theorem code_ch (s : Nat → Addr) (b : Addr) (ps : List Int) (v : Value) (w : World) (hs : Sents w s) (hb : Blk w b) (hc : Ch w b ps v) (n : Nat) (hn : n ≤ 11) (hno : ∀ k, k < n → b ≠ s (k + 1)) (hit : n < 11 → b = s (n + 1)) :
    Calls Tryd.prog 20 #[v] w fun e w' => e = .returned (.int .i64 (if n < 11 then (n : Int) + 1 else -1)) ∧ w' = w := by
  obtain ⟨T, x, rfl⟩ := Ch_shape hc
  have HS := Aside0.mk hs
  clear hs
  have HB := Aside0.mk hb
  clear hb
  have HC := Aside0.mk hc
  clear hc
  have HNO := Aside0.mk hno
  clear hno
  have HIT := Aside0.mk hit
  clear hit
  go_enter Tryd.func20, Tryd.ntmps20
  go_wp2
  go_loopw [6] (fun i wr => ∃ k : Nat, k ≤ n ∧ i = .int .i64 k ∧ wr = w) (fun i _ => 11 - (intOf i).toNat)
  case atStart => exact ⟨0, Nat.zero_le _, rfl, rfl⟩
  case round =>
    obtain ⟨k, hkn, rfl, rfl⟩ := hrel
    by_cases hlt : k < 11
    · have hk1 : (k : Int) < 11 := by omega
      go_wp2_with fail
      refine (of_yes s k hlt _ rfl wr HS.out).mono ?_
      rintro e w1 ⟨rfl, rfl⟩
      go_wp2_with fail
      refine (is_chain HC.out (HS.out.blk k hlt) HB.out).mono ?_
      rintro e w2 ⟨rfl, rfl⟩
      rcases Nat.lt_or_ge k n with hkn2 | hkn2
      · rw [decide_eq_false (HNO.out k hkn2)]
        go_wp2
        go_roundw
        case rel => exact ⟨k + 1, by omega, by go_num, trivial⟩
        case measure => simp [intOf]; omega
      · obtain rfl : k = n := by omega
        rw [decide_eq_true (HIT.out hlt)]
        go_wp2
        go_ret
        exact ⟨rfl, rfl⟩
    · have hk1 : ¬ (k : Int) < 11 := by omega
      go_wp2
      go_ret
      exact ⟨rfl, rfl⟩
theorem code_nil (w : World) : Calls Tryd.prog 20 #[.nilIface] w fun e w' => e = .returned (.int .i64 0) ∧ w' = w := by
  go_enter Tryd.func20, Tryd.ntmps20
  go_wp2
  go_ret
  exact ⟨rfl, rfl⟩
/-- Code of an error at a place: the number of what it wraps. -/
theorem code_at {s : Nat → Addr} {w : World} (hs : Sents w s) {g : Nat} {p : Int} (n : Nat) (hn : n < 11) (h : w.heap[g]? = some (.cells #[.int .i64 p, Sent (s (n + 1))] 77 (0, 0))) :
    Calls Tryd.prog 20 #[AtPlace g] w fun e w' => e = .returned (.int .i64 ((n : Int) + 1)) ∧ w' = w := by
  refine (code_ch s (s (n + 1)) [p] (AtPlace g) w hs (hs.blk n hn) ⟨g, _, rfl, h, rfl⟩ n (by omega) (fun k hk e => by have := hs.inj n k hn (by omega) e; omega) (fun _ => rfl)).mono ?_
  rintro e w1 ⟨rfl, rfl⟩
  exact ⟨by rw [if_pos hn], rfl⟩
theorem sents_mk (w : World) (a0 a1 a2 a3 a4 a5 a6 a7 a8 a9 a10 : Addr) (h0 : w.cell? ⟨0, 0, none⟩ = some (Sent a0)) (h1 : w.cell? ⟨2, 0, none⟩ = some (Sent a1)) (h2 : w.cell? ⟨3, 0, none⟩ = some (Sent a2)) (h3 : w.cell? ⟨4, 0, none⟩ = some (Sent a3)) (h4 : w.cell? ⟨1, 0, none⟩ = some (Sent a4)) (h5 : w.cell? ⟨5, 0, none⟩ = some (Sent a5)) (h6 : w.cell? ⟨6, 0, none⟩ = some (Sent a6)) (h7 : w.cell? ⟨7, 0, none⟩ = some (Sent a7)) (h8 : w.cell? ⟨8, 0, none⟩ = some (Sent a8)) (h9 : w.cell? ⟨9, 0, none⟩ = some (Sent a9)) (h10 : w.cell? ⟨10, 0, none⟩ = some (Sent a10))
    (b0 : Blk w a0) (b1 : Blk w a1) (b2 : Blk w a2) (b3 : Blk w a3) (b4 : Blk w a4) (b5 : Blk w a5) (b6 : Blk w a6) (b7 : Blk w a7) (b8 : Blk w a8) (b9 : Blk w a9) (b10 : Blk w a10) (hnd : [a0, a1, a2, a3, a4, a5, a6, a7, a8, a9, a10].Nodup) : Sents w (fun k => [a0, a1, a2, a3, a4, a5, a6, a7, a8, a9, a10].getD (k - 1) a10) := by
  refine ⟨fun k hk => ?_, fun k hk => ?_, fun j k hj hk e => ?_⟩
  · rcases (by omega : k = 0 ∨ k = 1 ∨ k = 2 ∨ k = 3 ∨ k = 4 ∨ k = 5 ∨ k = 6 ∨ k = 7 ∨ k = 8 ∨ k = 9 ∨ k = 10) with rfl | rfl | rfl | rfl | rfl | rfl | rfl | rfl | rfl | rfl | rfl <;> assumption
  · rcases (by omega : k = 0 ∨ k = 1 ∨ k = 2 ∨ k = 3 ∨ k = 4 ∨ k = 5 ∨ k = 6 ∨ k = 7 ∨ k = 8 ∨ k = 9 ∨ k = 10) with rfl | rfl | rfl | rfl | rfl | rfl | rfl | rfl | rfl | rfl | rfl <;> assumption
  · simp only [Nat.add_sub_cancel] at e
    rw [List.getD_eq_getElem?_getD, List.getD_eq_getElem?_getD, List.getElem?_eq_getElem (by simpa using hj), List.getElem?_eq_getElem (by simpa using hk)] at e
    exact (List.getElem_inj hnd).1 e
end Go.Proofs.YtpejloegidailaaDoor.Wo
