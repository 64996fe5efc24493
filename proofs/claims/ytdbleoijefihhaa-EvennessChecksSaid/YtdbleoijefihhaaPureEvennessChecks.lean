/- For any n and any numbers, at most eight of them, Check tells what the law's own check tells, and every function of a set that Check refuses tells that refusal and nothing else: the law EvennessChecks, for all values of its two parameters. -/
import Derived.Test.YtdbleoijefihhaaPd
import Derived.Test.YtdbleoijefihhaaPEvx20
namespace Go.Proofs.Ytdbleoijefihhaa.PEv
open Go.RowKit Go.Proofs.YtdbleoijefihhaaW.PrintWords Go.Proofs.YtdbleoijefihhaaW.PrintLast Go.Proofs.YtdbleoijefihhaaW.PrintMore
set_option linter.unusedVariables false
set_option linter.unusedSimpArgs false

theorem both_l0 {n : Int} {set : List Int} (hl : set.length ≤ 8) : ∀ (d i k : Nat), i ≤ set.length → set.length - i = d → 2 * d + 1 < k →
    ∃ t, evenness_Check.l0 k n set set (set.length : Int) (i : Int) = some t ∧ schismalaw35_check.l0 k n set set (set.length : Int) (i : Int) = some t := by
  intro d
  induction d with
  | zero =>
    intro i k hi hd hk
    obtain ⟨k, rfl⟩ : ∃ j, k = j + 1 := ⟨k - 1, by omega⟩
    refine ⟨0, ?_, ?_⟩
    · simp only [evenness_Check.l0]
      rw [if_neg (by omega)]
    · simp only [schismalaw35_check.l0]
      rw [if_neg (by omega)]
  | succ d ih =>
    intro i k hi hd hk
    obtain ⟨k, rfl⟩ : ∃ j, k = j + 2 := ⟨k - 2, by omega⟩
    have hlt : i < set.length := by omega
    have hw := wrap_succ hlt (show set.length ≤ 9223372036854775807 by omega)
    -- the step once the bounds are known to hold or not
    have step : ∀ b : Bool, ∃ t, evenness_Check.j1 (k + 1) n set (i : Int) (rd set (i : Int)) set (set.length : Int) (i : Int) b = some t ∧ schismalaw35_check.j2 (k + 1) n set (i : Int) (rd set (i : Int)) set (set.length : Int) (i : Int) b = some t := by
      intro b
      cases b with
      | true =>
        refine ⟨3, ?_, ?_⟩
        · simp only [evenness_Check.j1]; rfl
        · simp only [schismalaw35_check.j2]; rfl
      | false =>
        simp only [evenness_Check.j1, schismalaw35_check.j2, Bool.false_eq_true, if_false]
        by_cases h0 : i = 0
        · subst h0
          obtain ⟨t, a, b⟩ := ih 1 k (by omega) (by omega) (by omega)
          refine ⟨t, ?_, ?_⟩
          · rw [if_neg (by omega), hw]; exact a
          · rw [if_neg (by omega), hw]; exact b
        · have hm : wrap64 ((i : Int) - 1) = ((i - 1 : Nat) : Int) := by unfold wrap64; omega
          by_cases hle : rd set (i : Int) ≤ rd set ((i - 1 : Nat) : Int)
          · refine ⟨6, ?_, ?_⟩
            · rw [if_pos (by omega), hm, if_pos (by omega), if_pos (by omega), if_pos hle]
            · rw [if_pos (by omega), hm, if_pos (by omega), if_pos (by omega), if_pos hle]
          · obtain ⟨t, a, b⟩ := ih (i + 1) k (by omega) (by omega) (by omega)
            refine ⟨t, ?_, ?_⟩
            · rw [if_pos (by omega), hm, if_pos (by omega), if_pos (by omega), if_neg hle, hw]; exact a
            · rw [if_pos (by omega), hm, if_pos (by omega), if_pos (by omega), if_neg hle, hw]; exact b
    have p1 : (i : Int) < (set.length : Int) := by omega
    have p0 : 0 ≤ (i : Int) := by omega
    simp only [evenness_Check.l0, schismalaw35_check.l0, if_pos p1, if_pos p0]
    by_cases hn : rd set (i : Int) < 0
    · rw [if_pos hn, if_pos hn]; exact step true
    · rw [if_neg hn, if_neg hn]; exact step _
theorem both_ok (n : Int) {set : List Int} (hl : set.length ≤ 8) {k : Nat} (hk : 30 < k) : ∃ t, evenness_Check.f k n set = some t ∧ schismalaw35_check.f k n set = some t := by
  obtain ⟨k, rfl⟩ : ∃ j, k = j + 1 := ⟨k - 1, by omega⟩
  unfold evenness_Check.f evenness_division.f schismalaw35_check.f
  simp only [schismalaw35_check.j0]
  by_cases h1 : n < 1
  · refine ⟨3, ?_, ?_⟩
    · rw [if_pos h1, Option.bind_some, if_neg (by omega)]
    · rw [if_pos h1]; rfl
  · rw [if_neg h1, if_neg h1]
    by_cases h2 : n > 60
    · refine ⟨3, ?_, ?_⟩
      · rw [if_pos h2, Option.bind_some, if_neg (by omega)]
      · rw [decide_eq_true h2]; rfl
    · rw [if_neg h2, decide_eq_false h2, Option.bind_some, if_pos rfl]
      simp only [Bool.false_eq_true, if_false]
      by_cases h0 : (set.length : Int) = 0
      · exact ⟨13, by rw [if_pos h0], by rw [if_pos h0]⟩
      · rw [if_neg h0, if_neg h0]
        obtain ⟨t, a, b⟩ := both_l0 (n := n) hl set.length 0 (k + 1) (by omega) (by omega) (by omega)
        obtain ⟨t', a', b'⟩ := both_l0 (n := n) hl set.length 0 k (by omega) (by omega) (by omega)
        have e : some t' = some t := by rw [← (schismalaw35_check.mono_l k).2.1 _ _ _ _ _ _ b', b]
        exact ⟨t, a, by rw [← e]; exact b'⟩
end Go.Proofs.Ytdbleoijefihhaa.PEv
namespace Go.Proofs.Ytdbleoijefihhaa.Pure
open Go.RowKit Go.Proofs.Ytdbleoijefihhaa.PEv Go.Proofs.YtdbleoijefihhaaW.PrintWords Go.Proofs.YtdbleoijefihhaaW.PrintLast

theorem EvennessChecks : schismalaw35_EvennessChecks.Pure := by
  intro n set hn hl hb hw
  obtain ⟨K, hK⟩ : ∃ K : Nat, 400 ≤ K := ⟨400, Nat.le_refl _⟩
  refine ⟨K, ?_⟩
  have hk := known_ge (show 100 ≤ K by omega)
  obtain ⟨k, rfl⟩ : ∃ k, K = k + 1 := ⟨K - 1, by omega⟩
  have hk1 := known_ge (show 100 ≤ k by omega)
  unfold schismalaw35_EvennessChecks.f
  rw [hk, Option.bind_some, if_pos rfl]
  simp only [schismalaw35_EvennessChecks.j0]
  by_cases h8 : (set.length : Int) > 8
  · rw [decide_eq_true h8, if_pos rfl, hk1]
    rfl
  · rw [decide_eq_false h8, if_neg (by simp)]
    obtain ⟨t, a, b⟩ := both_ok n (show set.length ≤ 8 by omega) (show 30 < k by omega)
    rw [b, Option.bind_some, a, Option.bind_some, if_pos rfl]
    by_cases t0 : t = 0
    · rw [if_pos t0]
    · rw [if_neg t0]
      have e1 : evenness_Steps.f k n set = some ([], t) := by unfold evenness_Steps.f; rw [a, Option.bind_some, if_neg t0]
      have e2 : evenness_Spectrum.f k n set 0 = some ([], t) := by unfold evenness_Spectrum.f; rw [a, Option.bind_some, if_neg t0]
      have e3 : evenness_IsEven.f k n set = some (false, 0, 0, 0, t) := by unfold evenness_IsEven.f; rw [a, Option.bind_some, if_neg t0]
      have e4 : evenness_Transpose.f k n set 1 = some ([], t) := by unfold evenness_Transpose.f; rw [a, Option.bind_some, if_neg t0]
      have e5 : evenness_Rotations.f k n set = some ([], t) := by unfold evenness_Rotations.f; rw [a, Option.bind_some, if_neg t0]
      have e6 : evenness_Complement.f k n set = some ([], t) := by unfold evenness_Complement.f; rw [a, Option.bind_some, if_neg t0]
      have e7 : evenness_Inverse.f k n set = some ([], t) := by unfold evenness_Inverse.f; rw [a, Option.bind_some, if_neg t0]
      have e8 : evenness_Generator.f k n set = some (0, 0, false, t) := by unfold evenness_Generator.f; rw [a, Option.bind_some, if_neg t0]
      rw [e1, Option.bind_some, e2, Option.bind_some, e3, Option.bind_some, e4, Option.bind_some, e5, Option.bind_some, e6, Option.bind_some, e7, Option.bind_some, e8, Option.bind_some]
      have z : wrap64 0 = 0 := by unfold wrap64; omega
      simp [z]

end Go.Proofs.Ytdbleoijefihhaa.Pure
