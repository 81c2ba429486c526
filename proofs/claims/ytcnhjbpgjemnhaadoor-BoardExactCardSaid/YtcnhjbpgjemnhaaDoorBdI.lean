/- BoardExact: what Where's reference answers. -/
import Derived.Test.YtcnhjbpgjemnhaaDoorBdF
namespace Go.Proofs.YtcnhjbpgjemnhaaDoor.Bd
open Go.RowKit Go.Proofs.YtcnhjbpgjemnhaaDoorW.PrintWords Go.Proofs.YtcnhjbpgjemnhaaDoorW.PrintLast Go.Proofs.YtcnhjbpgjemnhaaDoorW.PrintMore Go.Proofs.YtcnhjbpgjemnhaaDoor.X
set_option linter.unusedVariables false
set_option linter.unusedSimpArgs false
attribute [local go_sem high] eqA25 eqA48 eqA50

theorem rwhere_no (s g f : Int) (w : World) (h : ¬(s = 0 ∧ g = 0 ∧ 0 ≤ f ∧ f < 85)) : Calls Tryd.prog 15 #[.agg #[.int .i64 s, .int .i64 g, .int .i64 f]] w fun e w' => e = .returned (.tuple #[.string ⟨#[]⟩, .int .i64 0, .int .i64 0]) ∧ Below w.heap.size w w' := by
  have hu := Tryd.underlying25
  have hb := below_alloc (Below.refl w.heap.size w) (.cells #[.int .i64 s, .int .i64 g, .int .i64 f] 25)
  go_enter Tryd.func15, Tryd.ntmps15
  by_cases hs : s = 0
  · subst hs
    by_cases hg : g = 0
    · subst hg
      have hc : f < 0 ∨ (¬ f < 0 ∧ 85 ≤ f) := by
        by_cases h0 : f < 0
        · exact .inl h0
        · refine .inr ⟨h0, ?_⟩
          by_cases h1 : 85 ≤ f
          · exact h1
          · exact absurd ⟨rfl, rfl, by omega, by omega⟩ h
      clear h
      rcases hc with h0 | ⟨h0, h1⟩
      · go_wp2
        exact bodyPost_ret (v := .tuple #[.string ⟨#[]⟩, .int .i64 0, .int .i64 0]) (by simp [results, Tryd.results15, go_sem]) rfl ⟨rfl, hb⟩
      · go_wp2
        exact bodyPost_ret (v := .tuple #[.string ⟨#[]⟩, .int .i64 0, .int .i64 0]) (by simp [results, Tryd.results15, go_sem]) rfl ⟨rfl, hb⟩
    · have hg1 : (g != 0) = true := by simpa using hg
      clear h
      go_wp2
      exact bodyPost_ret (v := .tuple #[.string ⟨#[]⟩, .int .i64 0, .int .i64 0]) (by simp [results, Tryd.results15, go_sem]) rfl ⟨rfl, hb⟩
  · have hs1 : (s != 0) = true := by simpa using hs
    clear h
    go_wp2
    exact bodyPost_ret (v := .tuple #[.string ⟨#[]⟩, .int .i64 0, .int .i64 0]) (by simp [results, Tryd.results15, go_sem]) rfl ⟨rfl, hb⟩
theorem rwhere_ok (f : Int) (w : World) (h : 0 ≤ f ∧ f < 85) : Calls Tryd.prog 15 #[fld f] w fun e w' => e = .returned (.tuple #[.string ⟨whereS f⟩, .int .i64 (whereT f), .int .i64 (whereN f)]) ∧ Below w.heap.size w w' := by
  have hu := Tryd.underlying25
  have hb := below_alloc (Below.refl w.heap.size w) (.cells #[.int .i64 0, .int .i64 0, .int .i64 f] 25)
  have z0 : ¬ f < 0 := by omega
  have z1 : ¬ 85 ≤ f := by omega
  go_enter Tryd.func15, Tryd.ntmps15
  by_cases h1 : f < 24
  · go_wp2
    exact bodyPost_ret (v := .tuple #[.string ⟨#[114, 111, 111, 116]⟩, .int .i64 0, .int .i64 f]) (by simp [results, Tryd.results15, go_sem]) rfl ⟨by obtain ⟨q1_, q2_, q3_⟩ := whereF f (by omega); rw [q1_, q2_, q3_], hb⟩
  · by_cases h2 : f = 24
    · subst h2
      go_wp2
      exact bodyPost_ret (v := .tuple #[.string ⟨#[101, 114, 97]⟩, .int .i64 0, .int .i64 0]) (by simp [results, Tryd.results15, go_sem]) rfl ⟨by rw [show whereS 24 = #[101, 114, 97] by decide, show whereT 24 = 0 by decide, show whereN 24 = 0 by decide], hb⟩
    · have h2' : (f == 24) = false := by simpa using h2
      by_cases h3 : f < 79
      · have q1 := w64 (f - 25) (by omega)
        have q2 : (f - 25).tdiv 9 = (f - 25) / 9 := Int.tdiv_eq_ediv_of_nonneg (by omega)
        have q3 : (f - 25).tmod 9 = (f - 25) % 9 := Int.tmod_eq_emod_of_nonneg (by omega)
        have q4 := w64 ((f - 25) / 9) (by omega)
        have q5 := w64 ((f - 25) % 9) (by omega)
        go_wp2
        exact bodyPost_ret (v := .tuple #[.string ⟨#[107, 101, 101, 112]⟩, .int .i64 ((f - 25) / 9), .int .i64 ((f - 25) % 9)]) (by simp [results, Tryd.results15, go_sem, q1, q2, q3, q4, q5]) rfl ⟨by obtain ⟨q1_, q2_, q3_⟩ := whereK f (by omega) (by omega); rw [q1_, q2_, q3_], hb⟩
      · have q1 := w64 (f - 79) (by omega)
        go_wp2
        exact bodyPost_ret (v := .tuple #[.string ⟨#[115, 112, 97, 110]⟩, .int .i64 (f - 79), .int .i64 0]) (by simp [results, Tryd.results15, go_sem, q1]) rfl ⟨by obtain ⟨q1_, q2_, q3_⟩ := whereP f (by omega); rw [q1_, q2_, q3_], hb⟩
theorem whereS_ne (f : Int) : ¬ (⟨whereS f⟩ : ByteArray).toList = [] := by
  unfold whereS
  split
  · first | decide +kernel | simp [ByteArray.toList, ByteArray.toList.loop]
  · split
    · first | decide +kernel | simp [ByteArray.toList, ByteArray.toList.loop]
    · split <;> first | decide +kernel | simp [ByteArray.toList, ByteArray.toList.loop]
end Go.Proofs.YtcnhjbpgjemnhaaDoor.Bd
