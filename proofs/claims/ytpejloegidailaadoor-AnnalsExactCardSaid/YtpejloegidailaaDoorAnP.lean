/- The document's Of. -/
import Derived.Test.YtpejloegidailaaDoorAnO
namespace Go.Proofs.YtpejloegidailaaDoor.An
open Go.RowKit Go.Proofs.YtpejloegidailaaDoorW.PrintWords Go.Proofs.YtpejloegidailaaDoorW.PrintLast Go.Proofs.YtpejloegidailaaDoorW.PrintMore Go.Proofs.YtpejloegidailaaDoor.X
set_option linter.unusedVariables false
set_option linter.unusedSimpArgs false
attribute [local go_sem high] eqA38 eqA36 eqA44

theorem R_apart {α β : Type} {d : Kd α} {d' : Kd β} {e e' base base' : Nat} {ok ok' : Nat → Prop} {w : World} {v v' : Value} {xs : List α} {ys : List β} (hne : e ≠ e') (h : Kd.R d e w base ok v xs) (h' : Kd.R d' e' w base' ok' v' ys) (k : Nat) (hk : v.ownBlock = some k) : v'.ownBlock ≠ some k := by
  intro hk'
  obtain ⟨c, hc⟩ := Kd.R_typed h k hk
  exact Kd.R_ne h' hc (fun e => hne e.symm) hk'.symm
section
variable {ops : Array Oper} {o : Oper} {rest : List Oper} {a : Act} {Q : Exit → Act → World → Prop}
theorem ev_store {w0 W : World} (hN : o.dst = none) (hgd : o.guard = none) (t : TypeId) (p x : Operand) (ho : o.op = .store t p x) {g cap o' n : Nat} (i : Int) (st : List Ev) (r' : Ev)
    (haddr : a.eval p = .pointer (some ⟨g, o', none⟩)) (hoff : o' = i.toNat * 8 + 0) (hx : a.eval x = v44 r') (ht : (Tryd.prog.info? t).map (·.size) = some 8)
    (HO : Kd.R k44 44 W w0.heap.size (fun _ => True) (.slice (some ⟨g, 0, none⟩) n cap) st) (h0 : 0 ≤ i) (hk : i < n) (HB : Below w0.heap.size w0 W)
    (h : ∀ w1, Kd.R k44 44 w1 w0.heap.size (fun _ => True) (.slice (some ⟨g, 0, none⟩) n cap) (st.set i.toNat r') → Below w0.heap.size w0 w1 → W.grownBy w1 (some g) → wpList Tryd.prog ops Q rest a w1) : wpList Tryd.prog ops Q (o :: rest) a W := by
  obtain ⟨c, hcl, _, hcc, _⟩ := Kd.R_elem HO z44 i h0 hk
  have hcl' : c.length = 8 := hcl
  refine Kd.R_store k44 (w0 := w0) w0.heap.size hN hgd t p x ho 44 i 0 st r' (v44 r') (c44 r') c (fun _ => True) (fun _ => False) haddr hoff hx rfl ht (by simp [Value.oneCell']) HO h0 hk hcl hcc (Nat.le_refl 8) ?_ (fun _ h => h.elim) HB h
  rw [List.take_zero, List.nil_append, List.drop_eq_nil_of_le (by rw [hcl']; simp), List.append_nil]
  exact k44_mkM _ _ _ r'
theorem bool_store {w0 W : World} (hN : o.dst = none) (hgd : o.guard = none) (t : TypeId) (p x : Operand) (ho : o.op = .store t p x) {g cap o' n : Nat} (i : Int) (st : List Bool) (b : Bool)
    (haddr : a.eval p = .pointer (some ⟨g, o', none⟩)) (hoff : o' = i.toNat * 1 + 0) (hx : a.eval x = .bool b) (ht : (Tryd.prog.info? t).map (·.size) = some 1)
    (HO : Kd.R Kd.bool 4 W w0.heap.size (fun _ => True) (.slice (some ⟨g, 0, none⟩) n cap) st) (h0 : 0 ≤ i) (hk : i < n) (HB : Below w0.heap.size w0 W)
    (h : ∀ w1, Kd.R Kd.bool 4 w1 w0.heap.size (fun _ => True) (.slice (some ⟨g, 0, none⟩) n cap) (st.set i.toNat b) → Below w0.heap.size w0 w1 → W.grownBy w1 (some g) → wpList Tryd.prog ops Q rest a w1) : wpList Tryd.prog ops Q (o :: rest) a W := by
  obtain ⟨c, hcl, _, hcc, _⟩ := Kd.R_elem HO false i h0 hk
  have hcl' : c.length = 1 := hcl
  refine Kd.R_store Kd.bool (w0 := w0) w0.heap.size hN hgd t p x ho 4 i 0 st b (.bool b) [.bool b] c (fun _ => True) (fun _ => False) haddr hoff hx rfl ht (by simp [Value.oneCell']) HO h0 hk hcl hcc (Nat.le_refl 1) ?_ (fun _ h => h.elim) HB h
  rw [List.take_zero, List.nil_append, List.drop_eq_nil_of_le (by rw [hcl']; simp), List.append_nil]
  rfl
end
theorem R_two {α β : Type} {d : Kd α} {d' : Kd β} {e e' base n cap : Nat} {w w1 : World} {g : Nat} {v : Value} {xs : List α} {ys : List β} (hE : d.E = []) (hne : e ≠ e') (h : Kd.R d e w base (fun _ => True) v xs) (h' : Kd.R d' e' w base (fun _ => True) (.slice (some ⟨g, 0, none⟩) n cap) ys) (hg : w.grownBy w1 (some g)) : Kd.R d e w1 base (fun _ => True) v xs :=
  R_other hE h hg (fun k hk he => R_apart hne h h' k hk (by rw [he]; rfl))
theorem info4 : (Tryd.prog.info? 4).map (fun i => (i.zero, i.size, i.bytes)) = some (some (.bool false), 1, 1) := by kernel_rfl
theorem cnt_snoc (l : List Rw) (k : Nat) (h : k < l.length) (x : Rw) (hx : l.getD k z40 = x) : ((l.take (k + 1)).filter fun r => r.f5).length = ((l.take k).filter fun r => r.f5).length + (if x.f5 then 1 else 0) := by
  rw [filter_snoc2 l k h x hx, List.length_append]
  cases x.f5 <;> simp
theorem bool_at {W : World} {base h n cap : Nat} {ok : Nat → Prop} {ps : List Int} (HO : Kd.R Kd.bool 4 W base ok (.slice (some ⟨h, 0, none⟩) n cap) (hasL n ps)) (i : Int) (h0 : 0 ≤ i) (h1 : i < n) : W.cell? ⟨h, i.toNat, none⟩ = some (.bool (decide (i ∈ ps))) := by
  obtain ⟨c, hcl, hM, hcc, _⟩ := Kd.R_elem HO false i h0 h1
  have hg : (hasL n ps).getD i.toNat false = decide (i ∈ ps) := by rw [List.getD_eq_getElem?_getD, hasL_at n ps i h0 h1]; rfl
  rw [hg] at hM
  have hc : c = [.bool (decide (i ∈ ps))] := hM
  have := hcc 0 (.bool (decide (i ∈ ps))) (by rw [hc]; rfl)
  have ha : i.toNat * (Kd.bool).sz + 0 = i.toNat := by show i.toNat * 1 + 0 = _; omega
  rw [ha] at this
  exact this
theorem rstep_err {st : List Rw} {i c : Nat} {e : Ev} (h : rstep st i e = .error c) : c = 1 ∨ c = 5 := by
  unfold rstep at h
  split at h
  · split at h
    · split at h
      · injection h with h; exact .inr h.symm
      · cases h
    · split at h
      · cases h
      · injection h with h; exact .inr h.symm
  · injection h with h; exact .inl h.symm
theorem rfold_err : ∀ (es : List Ev) (i : Nat) (st : List Rw) (c : Nat), rfold es i st = .error c → c = 1 ∨ c = 5
  | [], i, st, c, h => by cases h
  | e :: es, i, st, c, h => by
    unfold rfold at h
    cases hr : rstep st i e with
    | error d =>
      rw [hr] at h
      injection h with h
      subst h
      exact rstep_err hr
    | ok st' =>
      rw [hr] at h
      exact rfold_err es _ st' c h
theorem rowsM_code {es : List Ev} {c : Nat} (h : rowsM es = .error c) : c = 1 ∨ c = 5 := rfold_err es 0 [] c h
theorem err_pos {es : List Ev} {c : Nat} (h : rowsM es = .error c) : ((c : Int) != 0) = true ∧ ¬ (c : Int) = 0 := by
  rcases rowsM_code h with rfl | rfl <;> decide
/-- What the document's Of answers. -/
def ROf (w w' : World) (l : List Rw) (e : Ending) : Prop :=
  (∃ out v, ofM l = some out ∧ e = .returned (.tuple #[v, .bool true]) ∧ Kd.R k44 44 w' w.heap.size (fun _ => True) v out) ∨
  (ofM l = none ∧ e = .returned (.tuple #[.slice none 0 0, .bool false]))
set_option maxHeartbeats 8000000 in
set_option maxRecDepth 100000 in
theorem rof_c (A : Option Addr) (c : Nat) (l : List Rw) (w : World) (hE : Kd.C k40 w A l.length l) (hc : l.length ≤ c) (hlim : l.length ≤ 400000) :
    Calls Tryd.prog 17 #[.slice A l.length c] w fun e w' => ROf w w' l e ∧ Below w.heap.size w w' := by
  have h1 := Tryd.underlying44
  have h2 := Tryd.underlying36
  have h3 := Tryd.underlying38
  have h4 := Tryd.underlying40
  have hlen := Kd.C_max hE
  have hcnt : cntM l ≤ 2 * l.length := by
    have := List.length_filter_le (fun r : Rw => r.f5) l
    unfold cntM; omega
  obtain ⟨n, hn⟩ : ∃ n, n = cntM l := ⟨_, rfl⟩
  have hn1 : n ≤ 800000 := by omega
  have HE := Aside0.mk hE
  clear hE
  have HN := Aside0.mk hn
  clear hn
  clear hcnt
  go_enter Tryd.func17, Tryd.ntmps17
  go_wp2
  go_loopw [4, 5] (fun m i wr => ∃ (k : Nat), k ≤ l.length ∧ i = .int .i64 k ∧ m = .int .i64 ((l.length : Int) + (((l.take k).filter fun r => r.f5).length : Nat)) ∧ w = wr) (fun _ i _ => l.length - (intOf i).toNat)
  case atStart => exact ⟨0, Nat.zero_le _, rfl, by simp, rfl⟩
  case round =>
    obtain ⟨k, hk, rfl, rfl, rfl⟩ := hrel
    by_cases hlt : k < l.length
    · obtain ⟨ad, eA, q0, q1, q2, q3, q4, q5, q6, q7, q8, q9⟩ := at_T40 HE.out (k : Int) (by omega) (by omega)
      simp only [Int.toNat_natCast] at q0 q1 q2 q3 q4 q5 q6 q7 q8 q9
      cases eA
      obtain ⟨x, hx⟩ : ∃ x, x = rd_T40 l (k : Int) := ⟨_, rfl⟩
      rw [← hx] at q0 q1 q2 q3 q4 q5 q6 q7 q8 q9
      have hcs := cnt_snoc l k hlt x (by rw [hx]; simp [rd_T40])
      have hcb : ((l.take k).filter fun r => r.f5).length ≤ k := Nat.le_trans (List.length_filter_le _ _) (by simp; omega)
      obtain ⟨m, hm⟩ : ∃ m, m = ((l.take k).filter fun r => r.f5).length := ⟨_, rfl⟩
      rw [← hm] at hcs hcb ⊢
      clear hx hm
      obtain ⟨b5, hb5⟩ : ∃ b, b = x.f5 := ⟨_, rfl⟩
      rw [← hb5] at q9 hcs
      clear hb5
      cases b5
      · have hcs2 : ((l.take (k + 1)).filter fun r => r.f5).length = m := by simpa using hcs
        have HCS := Aside0.mk hcs2
        clear hcs hcs2
        go_wp2
        go_roundw
        case rel => exact ⟨k + 1, by omega, by go_num, by rw [HCS.out], by first | trivial | rfl⟩
        case measure => simp [intOf]; omega
      · have hcs2 : ((l.take (k + 1)).filter fun r => r.f5).length = m + 1 := by simpa using hcs
        have HCS := Aside0.mk hcs2
        clear hcs hcs2
        go_wp2
        go_roundw
        case rel => exact ⟨k + 1, by omega, by go_num, by rw [HCS.out]; congr 1, by first | trivial | rfl⟩
        case measure => simp [intOf]; omega
    · obtain rfl : k = l.length := by omega
      rw [List.take_length]
      have hnn : (l.length : Int) + ((l.filter fun r => r.f5).length : Nat) = (n : Int) := by rw [HN.out]; unfold cntM; omega
      rw [hnn]
      clear hnn
      have HB0 := Aside0.mk (Below.refl w.heap.size w)
      go_wp2_with ((with_reducible refine gate_ (.makeSlice 22 (.tmp 27) (.tmp 27)) rfl ?_); refine Kd.R_make k44 (w0 := w) w.heap.size 44 rfl rfl 22 (.tmp 27) (.tmp 27) rfl (n : Int) (by first | rfl | (go_simp; done)) (by first | rfl | (go_simp; done)) Tryd.underlying22 _ _ info44 rfl (by decide) (by decide) z44 (ok := fun _ => True) (okp := fun _ => False) (k44_mkM _ _ _ z44) (fun _ h => h.elim) trivial (by omega) (by simp; omega) HB0.out HB0.out.size ?_; intro v2 w2 hR2 hB2 hg2 hv2; refine hold ?_)
      unfold Hold
      obtain ⟨A2, c2, rfl⟩ := Kd.R_slice hR2
      rw [List.length_replicate, Int.toNat_natCast] at *
      obtain ⟨g, rfl⟩ : ∃ g, A2 = some ⟨g, 0, none⟩ := by
        cases A2 with
        | none => obtain ⟨b, hb, _⟩ := hv2; simp [Value.ownBlock] at hb
        | some ad => obtain ⟨g, rfl⟩ := Kd.R_head hR2; exact ⟨g, rfl⟩
      have HR2 := Aside0.mk hR2
      have HB2 := Aside0.mk hB2
      clear hR2 hB2 hv2
      go_wp2_with ((with_reducible refine gate_ (.makeSlice 69 (.tmp 29) (.tmp 29)) rfl ?_); refine Kd.R_make Kd.bool (w0 := w) w.heap.size 4 rfl rfl 69 (.tmp 29) (.tmp 29) rfl (n : Int) (by first | rfl | (go_simp; done)) (by first | rfl | (go_simp; done)) Tryd.underlying69 _ _ info4 rfl (by decide) (by decide) false (ok := fun _ => True) (okp := fun _ => False) (rfl) (fun _ h => h.elim) trivial (by omega) (by simp; omega) HB2.out HB2.out.size ?_; intro v3 w3 hR3 hB3 hg3 hv3; refine hold ?_)
      unfold Hold
      obtain ⟨A3, c3, rfl⟩ := Kd.R_slice hR3
      rw [List.length_replicate, Int.toNat_natCast] at hR3
      obtain ⟨h, rfl⟩ : ∃ g, A3 = some ⟨g, 0, none⟩ := by
        cases A3 with
        | none => obtain ⟨b, hb, _⟩ := hv3; simp [Value.ownBlock] at hb
        | some ad => obtain ⟨g, rfl⟩ := Kd.R_head hR3; exact ⟨g, rfl⟩
      have HR3 := Aside0.mk hR3
      have HB3 := Aside0.mk hB3
      have HO3 := Aside0.mk (R_other rfl HR2.out hg3 (fun k hk => by simp))
      clear hR3 hB3 hv3 hg2 hg3 HR2 HB2
      go_wp2
      clear hk hlt
      go_loopw [8] (fun i wr => ∃ (k : Nat) (out : List Ev), k ≤ l.length ∧ i = .int .i64 k ∧ out = ofFold (List.replicate n z44) (l.take k) ∧ (l.take k).any (badB n) = false ∧ Kd.R k44 44 wr w.heap.size (fun _ => True) (.slice (some ⟨g, 0, none⟩) n c2) out ∧ Kd.R Kd.bool 4 wr w.heap.size (fun _ => True) (.slice (some ⟨h, 0, none⟩) n c3) (hasL n (plcs (l.take k))) ∧ Below w.heap.size w wr) (fun i _ => l.length - (intOf i).toNat)
      case atStart => exact ⟨0, _, Nat.zero_le _, rfl, rfl, rfl, HO3.out, by rw [show plcs (l.take 0) = [] from rfl, hasL_nil]; exact HR3.out, HB3.out⟩
      case round =>
        clear HO3 HR3 HB3 HB0
        obtain ⟨k, out, hkl, rfl, hout, hnb, hR, hH, hb⟩ := hrel
        have holen : out.length = n := by rw [hout, ofFold_length, List.length_replicate]
        have HOUT := Aside0.mk hout
        have HNB := Aside0.mk hnb
        have HR := Aside0.mk hR
        have HH := Aside0.mk hH
        have HB := Aside0.mk hb
        clear hout hnb hR hH hb
        by_cases hlt : k < l.length
        · obtain ⟨ad, eA, q0, q1, q2, q3, q4, q5, q6, q7, q8, q9⟩ := at_T40 HE.out (k : Int) (by omega) (by omega)
          replace q0 := pw_cell_below HB.out q0
          replace q1 := pw_cell_below HB.out q1
          replace q2 := pw_cell_below HB.out q2
          replace q3 := pw_cell_below HB.out q3
          replace q4 := pw_cell_below HB.out q4
          replace q5 := pw_cell_below HB.out q5
          replace q6 := pw_cell_below HB.out q6
          replace q7 := pw_cell_below HB.out q7
          replace q8 := pw_cell_below HB.out q8
          replace q9 := pw_cell_below HB.out q9
          simp only [Int.toNat_natCast] at q0 q1 q2 q3 q4 q5 q6 q7 q8 q9
          cases eA
          obtain ⟨x, hx⟩ : ∃ x, x = rd_T40 l (k : Int) := ⟨_, rfl⟩
          rw [← hx] at q0 q1 q2 q3 q4 q5 q6 q7 q8 q9
          have hxk : l[k]? = some x := by rw [hx]; simp [rd_T40, List.getD, hlt]
          have hgd : l.getD k z40 = x := by rw [hx]; simp [rd_T40]
          obtain ⟨b5, hb5⟩ : ∃ b, b = x.f5 := ⟨_, rfl⟩
          rw [← hb5] at q9
          have hbad := any_bad l k hlt n HN.out
          have hnx := any_next l (badB n) k hlt HNB.out
          have hfn := ofFold_next (List.replicate n z44) l k hlt
          rw [← hx] at hbad hnx hfn
          rw [← HOUT.out] at hfn
          have hpn := plcs_snoc l k hlt x hgd
          obtain ⟨ps, hps⟩ : ∃ ps, ps = plcs (l.take k) := ⟨_, rfl⟩
          rw [← hps] at hpn
          have hpn2 : plcs (l.take (k + 1)) = ps ++ (if b5 then [x.f3, x.f4] else [x.f3]) := by rw [hpn, hb5]; rfl
          have hbd : badB n x = (decide (x.f3 < 0) || (decide ((n : Int) ≤ x.f3) || (b5 && (decide (x.f4 < 0) || decide ((n : Int) ≤ x.f4))))) := by rw [hb5]; rfl
          have hos : ofStep out x = if b5 then (out.set x.f3.toNat (fromEv x)).set x.f4.toNat (toEv x) else out.set x.f3.toNat (fromEv x) := by rw [hb5]; rfl
          have hR1 := Kd.R_alloc HR.out (o40 ⟨x.f0, x.f1, x.f2, x.f3, x.f4, b5⟩)
          have hH1 := Kd.R_alloc HH.out (o40 ⟨x.f0, x.f1, x.f2, x.f3, x.f4, b5⟩)
          rw [← hps] at hH1
          have hB1 := below_alloc HB.out (o40 ⟨x.f0, x.f1, x.f2, x.f3, x.f4, b5⟩)
          have hX1 := blk_new wr (o40 ⟨x.f0, x.f1, x.f2, x.f3, x.f4, b5⟩)
          have HO1 := Aside0.mk hR1
          have HH1 := Aside0.mk hH1
          have HB1 := Aside0.mk hB1
          have HX1 := Aside0.mk hX1
          have HXK := Aside0.mk hxk
          have HPN := Aside0.mk hpn2
          have HBD := Aside0.mk hbd
          have HOS := Aside0.mk hos
          have HBAD := Aside0.mk hbad
          have HNX := Aside0.mk hnx
          have HFN := Aside0.mk hfn
          have HPS := Aside0.mk hps.symm
          have HB5 := Aside0.mk hb5
          have hkb : k < 400000 := by omega
          clear hR1 hH1 hB1 hX1 hxk hpn hpn2 hbd hos hbad hnx hfn hps hb5 hx hgd HR HH HB HOUT HNB
          by_cases g1 : x.f3 < 0
          · have HNO : Aside0 (ofM l = none) := Aside0.mk (HBAD.out (by rw [HBD.out]; simp [g1]))
            go_wp2
            go_ret2
            exact ⟨.inr ⟨HNO.out, rfl⟩, HB1.out⟩
          · by_cases g2 : (n : Int) ≤ x.f3
            · have HNO : Aside0 (ofM l = none) := Aside0.mk (HBAD.out (by rw [HBD.out]; simp [g2]))
              go_wp2
              go_ret2
              exact ⟨.inr ⟨HNO.out, rfl⟩, HB1.out⟩
            · have qa := bool_at HH1.out x.f3 (by omega) (by omega)
              cases hd : decide (x.f3 ∈ ps)
              · rw [hd] at qa
                cases b5
                · have HNX2 := Aside0.mk (HNX.out (by rw [HBD.out]; simp [g1, g2]))
                  go_wp2_with (first
                    | ((with_reducible refine gate_ (.store 4 (.tmp 60) (.const (.bool true))) rfl ?_); refine bool_store (w0 := w) rfl rfl 4 (.tmp 60) (.const (.bool true)) rfl x.f3 (hasL n ps) true (by first | (go_simp; done) | (go_simp; rfl)) (by first | rfl | omega) rfl (by kernel_rfl) HH1.out (by omega) (by omega) HB1.out ?_; intro wa hoa hba hga; rw [hasL_set n ps x.f3 (by omega) (by omega)] at hoa; have HHa := Aside0.mk hoa; have HOa := Aside0.mk (R_two rfl (by decide) HO1.out HH1.out hga); have HBa := Aside0.mk hba; have HXa := Aside0.mk (blk_grownBy hga (Kd.R_ne HH1.out HX1.out (by decide)) HX1.out); obtain ⟨c0, c1, c2_, c3_, c4, c5, c6, c7, c8, c9⟩ := cells40 HXa.out; clear hoa hba hga)
                    | ((with_reducible refine gate_ (.store 44 (.tmp 69) (.tmp 68)) rfl ?_); refine ev_store (w0 := w) rfl rfl 44 (.tmp 69) (.tmp 68) rfl x.f3 out ⟨x.f0, true, x.f1, ⟨0, 0⟩⟩ (by first | (go_simp; done) | (go_simp; rfl)) (by first | rfl | omega) (by first | (go_simp; done) | (go_simp; rfl)) (by kernel_rfl) HOa.out (by omega) (by omega) HBa.out ?_; intro wb hob hbb hgb; have HOb := Aside0.mk hob; have HHb := Aside0.mk (R_two rfl (by decide) HHa.out HOa.out hgb); have HBb := Aside0.mk hbb; have HXb := Aside0.mk (blk_grownBy hgb (Kd.R_ne HOa.out HXa.out (by decide)) HXa.out); clear c0 c1 c2_ c3_ c4 c5 c6 c7 c8 c9; obtain ⟨c0, c1, c2_, c3_, c4, c5, c6, c7, c8, c9⟩ := cells40 HXb.out; clear hob hbb hgb))
                  clear c0 c1 c2_ c3_ c4 c5 c6 c7 c8 c9
                  go_roundw
                  case rel => exact ⟨k + 1, _, by omega, by go_num, (by rw [HFN.out, HOS.out]; rfl), HNX2.out, HOb.out, by rw [HPN.out]; simp only [Bool.false_eq_true, if_false]; exact HHb.out, HBb.out⟩
                  case measure => simp [intOf]; omega
                · by_cases g3 : x.f4 < 0
                  · have HNO : Aside0 (ofM l = none) := Aside0.mk (HBAD.out (by rw [HBD.out]; simp [g3]))
                    go_wp2_with (first
                      | ((with_reducible refine gate_ (.store 4 (.tmp 60) (.const (.bool true))) rfl ?_); refine bool_store (w0 := w) rfl rfl 4 (.tmp 60) (.const (.bool true)) rfl x.f3 (hasL n ps) true (by first | (go_simp; done) | (go_simp; rfl)) (by first | rfl | omega) rfl (by kernel_rfl) HH1.out (by omega) (by omega) HB1.out ?_; intro wa hoa hba hga; rw [hasL_set n ps x.f3 (by omega) (by omega)] at hoa; have HHa := Aside0.mk hoa; have HOa := Aside0.mk (R_two rfl (by decide) HO1.out HH1.out hga); have HBa := Aside0.mk hba; have HXa := Aside0.mk (blk_grownBy hga (Kd.R_ne HH1.out HX1.out (by decide)) HX1.out); obtain ⟨c0, c1, c2_, c3_, c4, c5, c6, c7, c8, c9⟩ := cells40 HXa.out; clear hoa hba hga)
                      | ((with_reducible refine gate_ (.store 44 (.tmp 69) (.tmp 68)) rfl ?_); refine ev_store (w0 := w) rfl rfl 44 (.tmp 69) (.tmp 68) rfl x.f3 out ⟨x.f0, true, x.f1, ⟨0, 0⟩⟩ (by first | (go_simp; done) | (go_simp; rfl)) (by first | rfl | omega) (by first | (go_simp; done) | (go_simp; rfl)) (by kernel_rfl) HOa.out (by omega) (by omega) HBa.out ?_; intro wb hob hbb hgb; have HOb := Aside0.mk hob; have HHb := Aside0.mk (R_two rfl (by decide) HHa.out HOa.out hgb); have HBb := Aside0.mk hbb; have HXb := Aside0.mk (blk_grownBy hgb (Kd.R_ne HOa.out HXa.out (by decide)) HXa.out); clear c0 c1 c2_ c3_ c4 c5 c6 c7 c8 c9; obtain ⟨c0, c1, c2_, c3_, c4, c5, c6, c7, c8, c9⟩ := cells40 HXb.out; clear hob hbb hgb))
                    go_ret2
                    exact ⟨.inr ⟨HNO.out, rfl⟩, HBb.out⟩
                  · by_cases g4 : (n : Int) ≤ x.f4
                    · have HNO : Aside0 (ofM l = none) := Aside0.mk (HBAD.out (by rw [HBD.out]; simp [g4]))
                      go_wp2_with (first
                        | ((with_reducible refine gate_ (.store 4 (.tmp 60) (.const (.bool true))) rfl ?_); refine bool_store (w0 := w) rfl rfl 4 (.tmp 60) (.const (.bool true)) rfl x.f3 (hasL n ps) true (by first | (go_simp; done) | (go_simp; rfl)) (by first | rfl | omega) rfl (by kernel_rfl) HH1.out (by omega) (by omega) HB1.out ?_; intro wa hoa hba hga; rw [hasL_set n ps x.f3 (by omega) (by omega)] at hoa; have HHa := Aside0.mk hoa; have HOa := Aside0.mk (R_two rfl (by decide) HO1.out HH1.out hga); have HBa := Aside0.mk hba; have HXa := Aside0.mk (blk_grownBy hga (Kd.R_ne HH1.out HX1.out (by decide)) HX1.out); obtain ⟨c0, c1, c2_, c3_, c4, c5, c6, c7, c8, c9⟩ := cells40 HXa.out; clear hoa hba hga)
                        | ((with_reducible refine gate_ (.store 44 (.tmp 69) (.tmp 68)) rfl ?_); refine ev_store (w0 := w) rfl rfl 44 (.tmp 69) (.tmp 68) rfl x.f3 out ⟨x.f0, true, x.f1, ⟨0, 0⟩⟩ (by first | (go_simp; done) | (go_simp; rfl)) (by first | rfl | omega) (by first | (go_simp; done) | (go_simp; rfl)) (by kernel_rfl) HOa.out (by omega) (by omega) HBa.out ?_; intro wb hob hbb hgb; have HOb := Aside0.mk hob; have HHb := Aside0.mk (R_two rfl (by decide) HHa.out HOa.out hgb); have HBb := Aside0.mk hbb; have HXb := Aside0.mk (blk_grownBy hgb (Kd.R_ne HOa.out HXa.out (by decide)) HXa.out); clear c0 c1 c2_ c3_ c4 c5 c6 c7 c8 c9; obtain ⟨c0, c1, c2_, c3_, c4, c5, c6, c7, c8, c9⟩ := cells40 HXb.out; clear hob hbb hgb))
                      go_ret2
                      exact ⟨.inr ⟨HNO.out, rfl⟩, HBb.out⟩
                    · cases hd2 : decide (x.f4 ∈ ps ++ [x.f3])
                      · have HNX2 := Aside0.mk (HNX.out (by rw [HBD.out]; simp [g1, g2, g3, g4]))
                        go_wp2_with (first
                          | ((with_reducible refine gate_ (.store 4 (.tmp 60) (.const (.bool true))) rfl ?_); refine bool_store (w0 := w) rfl rfl 4 (.tmp 60) (.const (.bool true)) rfl x.f3 (hasL n ps) true (by first | (go_simp; done) | (go_simp; rfl)) (by first | rfl | omega) rfl (by kernel_rfl) HH1.out (by omega) (by omega) HB1.out ?_; intro wa hoa hba hga; rw [hasL_set n ps x.f3 (by omega) (by omega)] at hoa; have HHa := Aside0.mk hoa; have HOa := Aside0.mk (R_two rfl (by decide) HO1.out HH1.out hga); have HBa := Aside0.mk hba; have HXa := Aside0.mk (blk_grownBy hga (Kd.R_ne HH1.out HX1.out (by decide)) HX1.out); obtain ⟨c0, c1, c2_, c3_, c4, c5, c6, c7, c8, c9⟩ := cells40 HXa.out; clear hoa hba hga)
                          | ((with_reducible refine gate_ (.store 44 (.tmp 69) (.tmp 68)) rfl ?_); refine ev_store (w0 := w) rfl rfl 44 (.tmp 69) (.tmp 68) rfl x.f3 out ⟨x.f0, true, x.f1, ⟨0, 0⟩⟩ (by first | (go_simp; done) | (go_simp; rfl)) (by first | rfl | omega) (by first | (go_simp; done) | (go_simp; rfl)) (by kernel_rfl) HOa.out (by omega) (by omega) HBa.out ?_; intro wb hob hbb hgb; have HOb := Aside0.mk hob; have HHb := Aside0.mk (R_two rfl (by decide) HHa.out HOa.out hgb); have HBb := Aside0.mk hbb; have HXb := Aside0.mk (blk_grownBy hgb (Kd.R_ne HOa.out HXa.out (by decide)) HXa.out); clear c0 c1 c2_ c3_ c4 c5 c6 c7 c8 c9; obtain ⟨c0, c1, c2_, c3_, c4, c5, c6, c7, c8, c9⟩ := cells40 HXb.out; have qd := bool_at HHb.out x.f4 (by omega) (by omega); rw [hd2] at qd; clear hob hbb hgb)
                          | ((with_reducible refine gate_ (.store 4 (.tmp 92) (.const (.bool true))) rfl ?_); refine bool_store (w0 := w) rfl rfl 4 (.tmp 92) (.const (.bool true)) rfl x.f4 (hasL n (ps ++ [x.f3])) true (by first | (go_simp; done) | (go_simp; rfl)) (by first | rfl | omega) rfl (by kernel_rfl) HHb.out (by omega) (by omega) HBb.out ?_; intro wc hoc hbc hgc; rw [hasL_set n (ps ++ [x.f3]) x.f4 (by omega) (by omega)] at hoc; have HHc := Aside0.mk hoc; have HOc := Aside0.mk (R_two rfl (by decide) HOb.out HHb.out hgc); have HBc := Aside0.mk hbc; have HXc := Aside0.mk (blk_grownBy hgc (Kd.R_ne HHb.out HXb.out (by decide)) HXb.out); clear c0 c1 c2_ c3_ c4 c5 c6 c7 c8 c9; obtain ⟨c0, c1, c2_, c3_, c4, c5, c6, c7, c8, c9⟩ := cells40 HXc.out; clear hoc hbc hgc)
                          | ((with_reducible refine gate_ (.store 44 (.tmp 101) (.tmp 100)) rfl ?_); refine ev_store (w0 := w) rfl rfl 44 (.tmp 101) (.tmp 100) rfl x.f4 (out.set x.f3.toNat ⟨x.f0, true, x.f1, ⟨0, 0⟩⟩) ⟨x.f0, false, ⟨0, 0, 0, 0⟩, x.f2⟩ (by first | (go_simp; done) | (go_simp; rfl)) (by first | rfl | omega) (by first | (go_simp; done) | (go_simp; rfl)) (by kernel_rfl) HOc.out (by omega) (by omega) HBc.out ?_; intro wd hod hbd hgd; have HOd := Aside0.mk hod; have HHd := Aside0.mk (R_two rfl (by decide) HHc.out HOc.out hgd); have HBd := Aside0.mk hbd; have HXd := Aside0.mk (blk_grownBy hgd (Kd.R_ne HOc.out HXc.out (by decide)) HXc.out); clear c0 c1 c2_ c3_ c4 c5 c6 c7 c8 c9; obtain ⟨c0, c1, c2_, c3_, c4, c5, c6, c7, c8, c9⟩ := cells40 HXd.out; clear hod hbd hgd))
                        clear c0 c1 c2_ c3_ c4 c5 c6 c7 c8 c9 qd
                        go_roundw
                        case rel => exact ⟨k + 1, _, by omega, by go_num, (by rw [HFN.out, HOS.out]; rfl), HNX2.out, HOd.out, by rw [HPN.out]; simp only [if_true]; rw [show ps ++ [x.f3, x.f4] = (ps ++ [x.f3]) ++ [x.f4] by simp]; exact HHd.out, HBd.out⟩
                        case measure => simp [intOf]; omega
                      · have HNO : Aside0 (ofM l = none) := Aside0.mk (of_dupT HXK.out (by rw [← HB5.out]) (of_decide_eq_true (by rw [HPS.out]; exact hd2)))
                        go_wp2_with (first
                          | ((with_reducible refine gate_ (.store 4 (.tmp 60) (.const (.bool true))) rfl ?_); refine bool_store (w0 := w) rfl rfl 4 (.tmp 60) (.const (.bool true)) rfl x.f3 (hasL n ps) true (by first | (go_simp; done) | (go_simp; rfl)) (by first | rfl | omega) rfl (by kernel_rfl) HH1.out (by omega) (by omega) HB1.out ?_; intro wa hoa hba hga; rw [hasL_set n ps x.f3 (by omega) (by omega)] at hoa; have HHa := Aside0.mk hoa; have HOa := Aside0.mk (R_two rfl (by decide) HO1.out HH1.out hga); have HBa := Aside0.mk hba; have HXa := Aside0.mk (blk_grownBy hga (Kd.R_ne HH1.out HX1.out (by decide)) HX1.out); obtain ⟨c0, c1, c2_, c3_, c4, c5, c6, c7, c8, c9⟩ := cells40 HXa.out; clear hoa hba hga)
                          | ((with_reducible refine gate_ (.store 44 (.tmp 69) (.tmp 68)) rfl ?_); refine ev_store (w0 := w) rfl rfl 44 (.tmp 69) (.tmp 68) rfl x.f3 out ⟨x.f0, true, x.f1, ⟨0, 0⟩⟩ (by first | (go_simp; done) | (go_simp; rfl)) (by first | rfl | omega) (by first | (go_simp; done) | (go_simp; rfl)) (by kernel_rfl) HOa.out (by omega) (by omega) HBa.out ?_; intro wb hob hbb hgb; have HOb := Aside0.mk hob; have HHb := Aside0.mk (R_two rfl (by decide) HHa.out HOa.out hgb); have HBb := Aside0.mk hbb; have HXb := Aside0.mk (blk_grownBy hgb (Kd.R_ne HOa.out HXa.out (by decide)) HXa.out); clear c0 c1 c2_ c3_ c4 c5 c6 c7 c8 c9; obtain ⟨c0, c1, c2_, c3_, c4, c5, c6, c7, c8, c9⟩ := cells40 HXb.out; have qd := bool_at HHb.out x.f4 (by omega) (by omega); rw [hd2] at qd; clear hob hbb hgb))
                        go_ret2
                        exact ⟨.inr ⟨HNO.out, rfl⟩, HBb.out⟩
              · rw [hd] at qa
                have HNO : Aside0 (ofM l = none) := Aside0.mk (of_dupF HXK.out (of_decide_eq_true (by rw [HPS.out]; exact hd)))
                go_wp2
                go_ret2
                exact ⟨.inr ⟨HNO.out, rfl⟩, HB1.out⟩
        · obtain rfl : k = l.length := by omega
          have hou : out = ofOut l := by
            have h9 := HOUT.out
            rw [List.take_length] at h9
            rw [h9, HN.out]; rfl
          have hnb2 : l.any (badB (cntM l)) = false := by
            have h9 := HNB.out
            rw [List.take_length] at h9
            rw [← HN.out]; exact h9
          subst holen
          have hCo := (Kd.R_reads' HR.out).2.2
          have hRo := rrows_c _ c2 out wr hCo (by omega)
          have hOf : ofM l = match rowsM out with
              | .ok back => if back = l then some out else none
              | .error _ => none := by
            unfold ofM
            rw [if_neg (by simpa using hnb2), ← hou]
            cases rowsM out <;> rfl
          clear hCo hou hnb2 HOUT HNB HH HN
          have HRO := Aside0.mk hRo
          clear hRo
          have HOF := Aside0.mk hOf
          clear hOf
          go_wp2_with fail
          refine HRO.out.mono ?_
          rintro e w3 ⟨hres, hb3⟩
          have HB3 := Aside0.mk (below_step HB.out hb3)
          have HR3 := Aside0.mk (Kd.R_below HR.out hb3)
          rcases hres with ⟨st, v, hst, rfl, hRv⟩ | ⟨c9, hst, rfl⟩
          · have hOf2 := HOF.out
            rw [hst] at hOf2
            simp only at hOf2
            have HV := Aside0.mk hRv
            have HOF2 := Aside0.mk hOf2
            clear hOf2
            clear HOF hst hRv hb3 HRO
            obtain ⟨Av, cv, rfl⟩ := Kd.R_slice HV.out
            go_wp2_with fail
            refine (rsame_c (Sl_R HV.out) (Sl_mk (Kd.C_below HE.out HB3.out) hc)).mono ?_
            rintro e w4 ⟨rfl, hb4⟩
            have HB4 := Aside0.mk (below_step HB3.out hb4)
            have HR4 := Aside0.mk (Kd.R_below HR3.out hb4)
            clear hb4
            by_cases hq : st = l
            · have hOf3 := HOF2.out
              rw [if_pos hq] at hOf3
              rw [decide_eq_true hq]
              have HOF3 := Aside0.mk hOf3
              clear hOf3
              have HQ := Aside0.mk hq
              clear hq
              clear HOF2
              go_wp2
              go_ret2
              exact ⟨.inl ⟨out, _, HOF3.out, rfl, HR4.out⟩, HB4.out⟩
            · have hOf3 := HOF2.out
              rw [if_neg hq] at hOf3
              rw [decide_eq_false hq]
              have HOF3 := Aside0.mk hOf3
              clear hOf3
              have HQ := Aside0.mk hq
              clear hq
              clear HOF2
              go_wp2
              go_ret2
              exact ⟨.inr ⟨HOF3.out, rfl⟩, HB4.out⟩
          · have hOf2 := HOF.out
            rw [hst] at hOf2
            simp only at hOf2
            have HOF2 := Aside0.mk hOf2
            clear hOf2
            have hc9 := err_pos hst
            clear HOF hst hb3 HRO
            go_wp2
            go_ret2
            exact ⟨.inr ⟨HOF2.out, rfl⟩, HB3.out⟩
end Go.Proofs.YtpejloegidailaaDoor.An
