/- lots: encoded and decoded (no program in sight). -/
import Derived.Test.YtlcfkdglknkbdaaDoorLoM
namespace Go.Proofs.YtlcfkdglknkbdaaDoor.Lo
open Go.RowKit Go.Proofs.YtlcfkdglknkbdaaDoorW.PrintWords Go.Proofs.YtlcfkdglknkbdaaDoorW.PrintLast Go.Proofs.YtlcfkdglknkbdaaDoorW.PrintMore Go.Proofs.YtlcfkdglknkbdaaDoor.X
set_option linter.unusedVariables false
set_option linter.unusedSimpArgs false

theorem kind_idx {st : Int} {o : S35} (hs : 1 ≤ st ∧ st ≤ 5) (h : fits st o = true) : kindOf st (idxI (kindsL st) o.f0) = o.f0 ∧ ((st = 1 ∧ (o.f0 = 1 ∨ o.f0 = 2 ∨ o.f0 = 3)) ∨ (st = 2 ∧ (o.f0 = 4 ∨ o.f0 = 5)) ∨ ((st = 3 ∨ st = 4 ∨ st = 5) ∧ (o.f0 = 6 ∨ o.f0 = 7 ∨ o.f0 = 8))) := by
  have hk : (st = 1 ∧ (o.f0 = 1 ∨ o.f0 = 2 ∨ o.f0 = 3) ∨ st = 2 ∧ (o.f0 = 4 ∨ o.f0 = 5) ∨ (st = 3 ∨ st = 4 ∨ st = 5) ∧ (o.f0 = 6 ∨ o.f0 = 7 ∨ o.f0 = 8)) := by
    unfold fits okPile okCort okKey at h
    split at h
    · have := of_decide_eq_true h; omega
    · split at h
      · have := of_decide_eq_true h; omega
      · split at h
        · have := of_decide_eq_true (Bool.and_eq_true_iff.1 h).1; omega
        · split at h
          · have := of_decide_eq_true (Bool.and_eq_true_iff.1 h).1; omega
          · cases h
  refine ⟨?_, hk⟩
  rcases hk with ⟨rfl, h0 | h0 | h0⟩ | ⟨rfl, h0 | h0⟩ | ⟨rfl | rfl | rfl, h0 | h0 | h0⟩ <;> rw [h0] <;> decide
theorem mk_back {st : Int} {o : S35} (hs : 1 ≤ st ∧ st ≤ 5) (h : fits st o = true) (hb : argB st o = true) : mkOp st o.f0 (argX o) (argY o) = o := by
  obtain ⟨k, key, val, tall⟩ := o
  have hk := (kind_idx hs h).2
  have hb' := of_decide_eq_true hb
  simp only [] at hk
  rcases hk with ⟨rfl, rfl | rfl | rfl⟩ | ⟨rfl, rfl | rfl⟩ | ⟨rfl | rfl | rfl, rfl | rfl | rfl⟩ <;> simp [fits, okPile, okCort, okKey, argX, argY, mkOp] at h hb' ⊢ <;> omega
theorem task_back {x : S28} (hg : goodB x = true) {t : S37} (ht : t ∈ x.f1) (hb : argB x.f0.f0 t.f1 = true) : mkOp x.f0.f0 (kindOf x.f0.f0 (idxI (kindsL x.f0.f0) t.f1.f0)) (argX t.f1) (argY t.f1) = t.f1 ∧ t.f0 % x.f0.f2 = t.f0 := by
  obtain ⟨hok, _, _, hT, _⟩ := good_conf hg
  have hs := (okConf_b hok).1
  have h1 := List.all_eq_true.1 hT t ht
  have hf := (Bool.and_eq_true_iff.1 h1).2
  have h0 := of_decide_eq_true (Bool.and_eq_true_iff.1 h1).1
  exact ⟨by rw [(kind_idx hs hf).1]; exact mk_back hs hf hb, Int.emod_eq_of_lt h0.1 h0.2⟩
theorem enc_parts {x : S28} (h : encB x = true) : goodB x = true ∧ x.f0.f3 < 256 ∧ ∀ t ∈ x.f1, argB x.f0.f0 t.f1 = true := by
  unfold encB at h
  simp only [Bool.and_eq_true, decide_eq_true_eq, List.all_eq_true] at h
  exact ⟨h.1, h.2.1, h.2.2⟩
/-! ### the bytes, one by one -/
theorem flat_at (st : Int) (l : List S37) (k : Nat) (hk : k < l.length) (j : Nat) (hj : j < 4) : (l.flatMap (tkL st)).getD (4 * k + j) 0 = (tkL st (l.getD k z37)).getD j 0 := by
  induction l generalizing k with
  | nil => simp at hk
  | cons a l ih =>
    rw [List.flatMap_cons]
    have h4 : (tkL st a).length = 4 := rfl
    cases k with
    | zero =>
      rw [List.getD_eq_getElem?_getD, List.getElem?_append_left (by rw [h4]; omega)]
      simp
    | succ k =>
      have := ih k (by simpa using hk)
      rw [List.getD_eq_getElem?_getD, List.getElem?_append_right (by rw [h4]; omega), h4, show 4 * (k + 1) + j - 4 = 4 * k + j by omega, ← List.getD_eq_getElem?_getD, this]
      simp
theorem enc_hd (x : S28) (i : Nat) (hi : i < 6) : (encL x).getD i 0 = (hdL x).getD i 0 := by
  unfold encL enL
  rw [List.append_assoc, List.getD_eq_getElem?_getD, List.getElem?_append_left (by show i < 6; omega), ← List.getD_eq_getElem?_getD]
theorem enc_tk (x : S28) (k : Nat) (hk : k < x.f1.length) (j : Nat) (hj : j < 4) : (encL x).getD (6 + 4 * k + j) 0 = (tkL x.f0.f0 (x.f1.getD k z37)).getD j 0 := by
  unfold encL enL
  rw [List.append_assoc, List.getD_eq_getElem?_getD, List.getElem?_append_right (by show 6 ≤ _; omega), show 6 + 4 * k + j - (hdL x).length = 4 * k + j by show 6 + 4 * k + j - 6 = _; omega, List.take_length,
    List.getElem?_append_left (by rw [flat_len]; omega), ← List.getD_eq_getElem?_getD, flat_at _ _ _ hk _ hj]
theorem enc_pk (x : S28) (i : Nat) (hi : i < x.f2.length) : (encL x).getD (6 + 4 * x.f1.length + i) 0 = x.f2.getD i 0 := by
  unfold encL enL
  rw [List.append_assoc, List.getD_eq_getElem?_getD, List.getElem?_append_right (by show 6 ≤ _; omega), List.take_length, List.take_length, List.getElem?_append_right (by rw [flat_len]; show _ ≤ 6 + 4 * x.f1.length + i - 6; omega), flat_len,
    show 6 + 4 * x.f1.length + i - (hdL x).length - 4 * x.f1.length = i by show 6 + 4 * x.f1.length + i - 6 - _ = _; omega]
  simp [List.getElem?_map, hi]
/-- What is read from bytes that begin with a script's. -/
theorem dec_of (s : ByteArray) (x : S28) (he : encB x = true) (hs : ∀ i, i < 6 + 4 * x.f1.length + x.f2.length → bt s i = (encL x).getD i 0) :
    cfgOf s = x.f0 ∧ cntOf s = x.f1.length ∧ tasks s x.f1.length = x.f1 ∧ ∀ i, i < x.f2.length → bt s (6 + 4 * x.f1.length + i) % thOf s = x.f2.getD i 0 := by
  obtain ⟨hg, hsl, hab⟩ := enc_parts he
  obtain ⟨hok, n5, n6, hT, hP⟩ := good_conf hg
  obtain ⟨⟨s1, s2⟩, ⟨e1, e2⟩, ⟨t1, t2⟩, ⟨o1, o2⟩, ⟨r1, r2⟩⟩ := okConf_b hok
  have b0 : bt s 0 = x.f0.f0 - 1 := (hs 0 (by omega)).trans (enc_hd x 0 (by omega))
  have b1 : bt s 1 = x.f0.f1 - 1 := (hs 1 (by omega)).trans (enc_hd x 1 (by omega))
  have b2 : bt s 2 = x.f0.f2 - 1 := (hs 2 (by omega)).trans (enc_hd x 2 (by omega))
  have b3 : bt s 3 = x.f0.f3 := (hs 3 (by omega)).trans (enc_hd x 3 (by omega))
  have b4 : bt s 4 = x.f0.f4 - 1 := (hs 4 (by omega)).trans (enc_hd x 4 (by omega))
  have b5 : bt s 5 = x.f1.length := (hs 5 (by omega)).trans (enc_hd x 5 (by omega))
  have hst : stOf s = x.f0.f0 := by unfold stOf; rw [b0]; omega
  have hth : thOf s = x.f0.f2 := by unfold thOf; rw [b2]; omega
  refine ⟨?_, by unfold cntOf; rw [b5]; omega, ?_, ?_⟩
  · unfold cfgOf
    rw [hst, hth, b1, b3, b4, Int.emod_eq_of_lt (show 0 ≤ x.f0.f1 - 1 by omega) (by omega), Int.emod_eq_of_lt (show 0 ≤ x.f0.f4 - 1 by omega) (by omega), Int.sub_add_cancel, Int.sub_add_cancel]
  · refine List.ext_getElem? (fun k => ?_)
    unfold tasks
    rw [List.getElem?_map]
    by_cases hk : k < x.f1.length
    · rw [List.getElem?_range hk, List.getElem?_eq_getElem hk]
      have hm : x.f1[k] ∈ x.f1 := List.getElem_mem hk
      have hgd : x.f1.getD k z37 = x.f1[k] := by simp [List.getD, hk]
      have c0 : bt s (6 + 4 * k) = x.f1[k].f0 := by have := (hs (6 + 4 * k + 0) (by omega)).trans (enc_tk x k hk 0 (by omega)); rw [hgd] at this; exact this
      have c1 : bt s (6 + 4 * k + 1) = idxI (kindsL x.f0.f0) x.f1[k].f1.f0 := by have := (hs (6 + 4 * k + 1) (by omega)).trans (enc_tk x k hk 1 (by omega)); rw [hgd] at this; exact this
      have c2 : bt s (6 + 4 * k + 1 + 1) = argX x.f1[k].f1 := by have := (hs (6 + 4 * k + 2) (by omega)).trans (enc_tk x k hk 2 (by omega)); rw [hgd] at this; exact this
      have c3 : bt s (6 + 4 * k + 1 + 2) = argY x.f1[k].f1 := by have := (hs (6 + 4 * k + 3) (by omega)).trans (enc_tk x k hk 3 (by omega)); rw [hgd] at this; exact this
      obtain ⟨q1, q2⟩ := task_back hg hm (hab _ hm)
      simp only [Option.map_some]
      congr 1
      unfold taskAt opAt
      rw [hst, hth, c0, c1, c2, c3, q1, q2]
    · rw [List.getElem?_eq_none (by simpa using hk), List.getElem?_eq_none (by omega)]
      rfl
  · intro i hi
    have hm : x.f2[i] ∈ x.f2 := List.getElem_mem hi
    have hp := of_decide_eq_true (List.all_eq_true.1 hP _ hm)
    have hgd : x.f2.getD i 0 = x.f2[i] := by simp [List.getD, hi]
    rw [(hs _ (by omega)).trans (enc_pk x i hi), hth, hgd, Int.emod_eq_of_lt hp.1 hp.2]
end Go.Proofs.YtlcfkdglknkbdaaDoor.Lo
