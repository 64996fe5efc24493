/- For any described set and any class, Steps, Spectrum and IsEven return the sizes, the spectrum, and whether the set is maximally even, or ErrRange: the law EvennessClasses in its plain form. -/
import Derived.Test.YtdbleoijefihhaaPs
import Derived.Test.YtdbleoijefihhaaPEvx17
namespace Go.Proofs.Ytdbleoijefihhaa.PEv
open Go.RowKit Go.Proofs.YtdbleoijefihhaaW.PrintWords Go.Proofs.YtdbleoijefihhaaW.PrintLast Go.Proofs.YtdbleoijefihhaaW.PrintMore
set_option linter.unusedVariables false
set_option linter.unusedSimpArgs false

theorem equal_self (l : List Int) (hl : l.length ≤ 60) {k : Nat} (hk : 61 < k) : slices_Equal_int_int.f k l l = some true := by
  have := at_rounds (slices_Equal_int_int.mono l l) (k := l.length + 1) (k' := k) (by omega) (equal_f l l (by omega))
  rw [this]
  simp

theorem classes_pure (a b c : Int) (ha : (Lit.int .u8 a).wf = true) (_ : (Lit.int .u16 b).wf = true) (_ : (Lit.int .i64 c).wf = true) : ∃ k, schismalaw35_EvennessClasses.f k a b c = some true := by
  obtain ⟨h0, h1⟩ := u8_range ha
  obtain ⟨n, set, hm, hv, hn⟩ := described b h0 h1
  have h60 := hv.len60
  refine ⟨303, ?_⟩
  unfold schismalaw35_EvennessClasses.f
  rw [known_ge (by omega), hm 303 (by omega)]
  simp only [Option.bind_some, if_true]
  rw [steps_ok hv (by omega)]
  simp only [Option.bind_some]
  obtain ⟨r, hr, hi, he⟩ := iseven_ok hv (show 200 < 303 by omega)
  have hj : ∀ s e, evenness_Spectrum.f 303 n set c = some (s, e) → schismalaw35_EvennessClasses.j0 303 c n set s e false = some true := by
    intro s e hs
    simp only [schismalaw35_EvennessClasses.j0, Bool.false_eq_true, if_false]
    by_cases hb : c < 0 ∨ (set.length : Int) < c
    · rw [spectrum_bad hv hb (by omega)] at hs
      obtain ⟨rfl, rfl⟩ := Prod.mk.inj (Option.some.inj hs)
      by_cases e1 : c < 0
      · rw [if_pos e1]; rfl
      · rw [if_neg e1, decide_eq_true (by omega)]; rfl
    · rw [spectrum_ok hv (by omega) (by omega) (by omega)] at hs
      obtain ⟨rfl, rfl⟩ := Prod.mk.inj (Option.some.inj hs)
      rw [if_neg (by omega), decide_eq_false (by omega)]
      simp only [schismalaw35_EvennessClasses.j1, Bool.false_eq_true, if_false]
      rw [lsizes_ok h60 (by omega) (by omega) (by omega)]
      simp only [Option.bind_some, slices_Sort_int_int.f, slices_Compact_int_int.f]
      rw [if_pos (by rw [szL_length]; omega)]
      simp only [Option.bind_some, if_true]
      have hl : (dedup (isort (szL n set c))).length ≤ 60 := Nat.le_trans (dedup_length_le _) (by rw [isort_length, szL_length]; exact h60)
      rw [equal_self _ hl (by omega)]
      rfl
  obtain ⟨s, e, hs⟩ : ∃ s e, evenness_Spectrum.f 303 n set c = some (s, e) := by
    by_cases hb : c < 0 ∨ (set.length : Int) < c
    · exact ⟨_, _, spectrum_bad hv hb (by omega)⟩
    · exact ⟨_, _, spectrum_ok hv (by omega) (by omega) (by omega)⟩
  rw [hs, hi, he]
  simp only [Option.bind_some, if_true]
  rw [lsizes_ok h60 (by omega) (by omega) (by omega)]
  simp only [Option.bind_some]
  rw [equal_self _ (by rw [szL_length]; exact h60) (by omega)]
  simp only [Option.bind_some, if_true, bne_self_eq_false, Bool.false_eq_true, if_false, beq_self_eq_true, Bool.not_true, Bool.or_self]
  exact hj s e hs
end Go.Proofs.Ytdbleoijefihhaa.PEv
