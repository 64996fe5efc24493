/- For any three numbers, Make returns the set of the quotients, or ErrRange: the law EvennessMakes, for all values of its three parameters. -/
import Derived.Test.YtdbleoijefihhaaPk
namespace Go.Proofs.Ytdbleoijefihhaa.Pure
open Go.RowKit Go.Proofs.Ytdbleoijefihhaa.PEv Go.Proofs.YtdbleoijefihhaaW.PrintWords Go.Proofs.YtdbleoijefihhaaW.PrintLast

theorem EvennessMakes : schismalaw35_EvennessMakes.Pure := by
  intro n m s _ _ _
  refine ⟨201, ?_⟩
  unfold schismalaw35_EvennessMakes.f
  rw [known_ge (by omega)]
  simp only [Option.bind_some, if_true]
  by_cases hb : n < 1 ∨ 60 < n ∨ m < 1 ∨ n < m ∨ s < 0 ∨ m ≤ s
  · rw [make_bad hb (by omega)]
    simp only [Option.bind_some]
    have hj : schismalaw35_EvennessMakes.j0 201 n m s [] 3 true = some true := rfl
    by_cases c1 : n < 1
    · rw [if_pos c1, hj]
    rw [if_neg c1]
    by_cases c2 : n > 60
    · rw [if_pos c2, hj]
    rw [if_neg c2]
    by_cases c3 : m < 1
    · rw [if_pos c3, hj]
    rw [if_neg c3]
    by_cases c4 : m > n
    · rw [if_pos c4, hj]
    rw [if_neg c4]
    by_cases c5 : s < 0
    · rw [if_pos c5, hj]
    rw [if_neg c5, decide_eq_true (show s ≥ m by omega), hj]
  · obtain ⟨m, rfl⟩ : ∃ j : Nat, m = (j : Int) := ⟨m.toNat, by omega⟩
    rw [make_ok (by omega) (by omega) (by omega) (by omega) (by omega) (by omega) (by omega)]
    simp only [Option.bind_some]
    rw [if_neg (by omega), if_neg (by omega), if_neg (by omega), if_neg (by omega), if_neg (by omega), decide_eq_false (by omega)]
    simp only [schismalaw35_EvennessMakes.j0, Bool.false_eq_true, if_false]
    exact makes_l0 n s m (by omega) (by omega) _ rfl m 0 200 [] (Nat.zero_le _) (by omega) (by omega) rfl

end Go.Proofs.Ytdbleoijefihhaa.Pure
