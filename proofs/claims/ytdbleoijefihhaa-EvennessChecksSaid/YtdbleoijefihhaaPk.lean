/- Plain laws of the even sets: the known examples, and what Make answers. -/
import Derived.Test.YtdbleoijefihhaaPEvx7
import Derived.Test.YtdbleoijefihhaaHe
namespace Go.Proofs.Ytdbleoijefihhaa.PEv
open Go.RowKit Go.Proofs.YtdbleoijefihhaaW.PrintWords Go.Proofs.YtdbleoijefihhaaW.PrintLast Go.Proofs.YtdbleoijefihhaaW.PrintMore
set_option linter.unusedVariables false
set_option linter.unusedSimpArgs false

set_option maxRecDepth 100000 in
theorem known_ok : schismalaw35_known.f 100 = some true := by kernel_rfl
theorem known_ge {k : Nat} (hk : 100 ≤ k) : schismalaw35_known.f k = some true := at_rounds schismalaw35_known.mono hk known_ok

/-- One note of Make. -/
def mk1 (n m s : Int) (i : Nat) : Int := wrap64 (Int.tdiv (wrap64 ((wrap64 (n * (i : Int))) + s)) m)
def makeL (n m s : Int) : List Int := (List.range m.toNat).map (mk1 n m s)

theorem make_l0 (n s : Int) (m : Nat) (hm : 1 ≤ m) (hm2 : m ≤ 60) : ∀ (d i k : Nat) (out : List Int), i ≤ m → m - i = d → d < k → out = (List.range i).map (mk1 n m s) →
    evenness_Make.l0 k n m s out m i = some (makeL n m s, 0) := by
  intro d
  induction d with
  | zero =>
    intro i k out hi hd hk ho
    obtain ⟨k, rfl⟩ : ∃ j, k = j + 1 := ⟨k - 1, by omega⟩
    obtain rfl : i = m := by omega
    simp only [evenness_Make.l0]
    rw [if_neg (by omega), ho]
    rfl
  | succ d ih =>
    intro i k out hi hd hk ho
    obtain ⟨k, rfl⟩ : ∃ j, k = j + 1 := ⟨k - 1, by omega⟩
    simp only [evenness_Make.l0]
    have hl : out.length = i := by rw [ho]; simp
    rw [if_pos (by omega), if_neg (by omega), if_pos (by omega), wrap_succ (show i < m by omega) (by omega)]
    refine ih (i + 1) k _ (by omega) (by omega) (by omega) ?_
    rw [List.range_succ, List.map_append, ho]
    rfl
theorem make_ok {n m s : Int} {k : Nat} (h1 : 1 ≤ n) (h2 : n ≤ 60) (h3 : 1 ≤ m) (h4 : m ≤ n) (h5 : 0 ≤ s) (h6 : s < m) (hk : 62 < k) : evenness_Make.f k n m s = some (makeL n m s, 0) := by
  unfold evenness_Make.f evenness_division.f
  rw [if_neg (by omega), if_neg (by omega)]
  simp only [Option.bind_some, if_true]
  rw [if_neg (by omega), if_neg (by omega), if_neg (by omega), decide_eq_false (by omega)]
  obtain ⟨k, rfl⟩ : ∃ j, k = j + 1 := ⟨k - 1, by omega⟩
  simp only [evenness_Make.j0, Bool.false_eq_true, if_false]
  obtain ⟨m, rfl⟩ : ∃ j : Nat, m = (j : Int) := ⟨m.toNat, by omega⟩
  exact make_l0 n s m (by omega) (by omega) m 0 k [] (Nat.zero_le _) (by omega) (by omega) rfl
theorem make_bad {n m s : Int} {k : Nat} (h : n < 1 ∨ 60 < n ∨ m < 1 ∨ n < m ∨ s < 0 ∨ m ≤ s) (hk : 1 < k) : evenness_Make.f k n m s = some ([], 3) := by
  obtain ⟨k, rfl⟩ : ∃ j, k = j + 1 := ⟨k - 1, by omega⟩
  unfold evenness_Make.f evenness_division.f
  by_cases c1 : n < 1
  · rw [if_pos c1]; rfl
  rw [if_neg c1]
  by_cases c2 : n > 60
  · rw [if_pos c2]; rfl
  rw [if_neg c2]
  simp only [Option.bind_some, if_true]
  by_cases c3 : m < 1
  · rw [if_pos c3]; rfl
  rw [if_neg c3]
  by_cases c4 : m > n
  · rw [if_pos c4]; rfl
  rw [if_neg c4]
  by_cases c5 : s < 0
  · rw [if_pos c5]; rfl
  rw [if_neg c5, decide_eq_true (show s ≥ m by omega)]
  rfl

end Go.Proofs.Ytdbleoijefihhaa.PEv
