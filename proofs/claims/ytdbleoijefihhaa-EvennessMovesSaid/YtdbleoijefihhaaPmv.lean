/- For any described set and any number of steps, Transpose, Rotations, Complement and Inverse return the moved set, all rotations, the other notes, and the inverse, or ErrEmpty: the law EvennessMoves in its plain form. -/
import Derived.Test.YtdbleoijefihhaaPmo
import Derived.Test.YtdbleoijefihhaaPEvx19
namespace Go.Proofs.Ytdbleoijefihhaa.PEv
open Go.RowKit Go.Proofs.YtdbleoijefihhaaW.PrintWords Go.Proofs.YtdbleoijefihhaaW.PrintLast Go.Proofs.YtdbleoijefihhaaW.PrintMore
set_option linter.unusedVariables false
set_option linter.unusedSimpArgs false

theorem equal_self' (l : List Int) (hl : l.length ≤ 60) {k : Nat} (hk : 61 < k) : slices_Equal_int_int.f k l l = some true := by
  have := at_rounds (slices_Equal_int_int.mono l l) (k := l.length + 1) (k' := k) (by omega) (equal_f l l (by omega))
  rw [this]
  simp

/-- What Complement answers. -/
def compS (set : List Int) (m : Nat) : List Int × Int := if pick (restOf set) m = [] then ([], 13) else (pick (restOf set) m, 0)

theorem moves_j1 {set : List Int} {m : Nat} (hm : m ≤ 60) {k : Nat} (hk : 100 < k) : schismalaw35_EvennessMoves.j1 k (compS set m).1 (compS set m).2 (pick (restOf set) m) false = some true := by
  obtain ⟨k, rfl⟩ : ∃ j, k = j + 1 := ⟨k - 1, by omega⟩
  have hl := pick_length (restOf set) m
  simp only [schismalaw35_EvennessMoves.j1, Bool.false_eq_true, if_false]
  unfold compS
  by_cases e : pick (restOf set) m = []
  · rw [if_pos e, e]; rfl
  · have e2 : ¬ ((pick (restOf set) m).length : Int) = 0 := fun h => e (List.length_eq_zero_iff.1 (by omega))
    rw [if_neg e, if_neg e2, if_pos rfl, equal_self' _ (show (pick (restOf set) m).length ≤ 60 by omega) (by omega)]
    rfl

theorem moves_l0 {n : Int} {set : List Int} (hv : Valid n set) (by_ : Int) (m : Nat) (hm : n = (m : Int)) : ∀ (d i k : Nat), i ≤ m → m - i = d → d + 210 < k →
    schismalaw35_EvennessMoves.l0 k by_ n set (movL n set by_) 0 (dedup (lsort (rots n set))) 0 (compS set m).1 (compS set m).2 (pick (backOf n set) m) 0 (pick (restOf set) i) (pick (backOf n set) i) n (i : Int) = some true := by
  have h60 := hv.len60
  have hn1 := hv.n1
  have hn2 := hv.n2
  intro d
  induction d with
  | zero =>
    intro i k hi hd hk
    obtain ⟨k, rfl⟩ : ∃ j, k = j + 1 := ⟨k - 1, by omega⟩
    obtain rfl : i = m := by omega
    have hml : (movL n set by_).length ≤ 60 := by unfold movL; rw [isort_length, List.length_map]; exact h60
    have hbl := pick_length (backOf n set) i
    simp only [schismalaw35_EvennessMoves.l0]
    rw [if_neg (by omega)]
    simp only [if_true]
    rw [move_ok hv by_ (by omega)]
    simp only [Option.bind_some]
    rw [equal_self' _ hml (by omega)]
    simp only [Option.bind_some, if_true]
    rw [lrotations_ok hv (by omega)]
    simp only [Option.bind_some, schismalaw35_same.f, decide_true, if_true]
    rw [equal_self' _ (by omega) (by omega)]
    simp only [Option.bind_some, Bool.not_true]
    exact moves_j1 (by omega) (by omega)
  | succ d ih =>
    intro i k hi hd hk
    obtain ⟨k, rfl⟩ : ∃ j, k = j + 1 := ⟨k - 1, by omega⟩
    have hl1 := pick_length (restOf set) i
    have hl2 := pick_length (backOf n set) i
    have ih' := ih (i + 1) k (by omega) (by omega) (by omega)
    rw [← wrap_succ (show i < m by omega) (show m ≤ 9223372036854775807 by omega), pick_succ, pick_succ] at ih'
    simp only [schismalaw35_EvennessMoves.l0]
    rw [if_pos (by omega), contains_f _ _ (by omega) (by omega), Option.bind_some]
    have hback : backOf n set (i : Int) = decide (Int.tmod (wrap64 (n - (i : Int))) n ∈ set) := rfl
    by_cases e : (i : Int) ∈ set
    · have hr : restOf set (i : Int) = false := by unfold restOf; rw [decide_eq_true e]; rfl
      rw [hr, if_neg (by decide), List.append_nil] at ih'
      rw [decide_eq_true e, if_pos rfl, if_neg (by omega), contains_f _ _ (by omega) (by omega), Option.bind_some, ← hback]
      cases hb : backOf n set (i : Int) with
      | true =>
        rw [hb, if_pos rfl] at ih'
        rw [if_pos rfl, if_pos (by omega)]
        exact ih'
      | false =>
        rw [hb, if_neg (by decide), List.append_nil] at ih'
        rw [if_neg (by decide)]
        exact ih'
    · have hr : restOf set (i : Int) = true := by unfold restOf; rw [decide_eq_false e]; rfl
      rw [hr, if_pos rfl] at ih'
      rw [decide_eq_false e, if_neg (by decide), if_pos (by omega), Option.bind_some, if_neg (by omega), contains_f _ _ (by omega) (by omega), Option.bind_some, ← hback]
      cases hb : backOf n set (i : Int) with
      | true =>
        rw [hb, if_pos rfl] at ih'
        rw [if_pos rfl, if_pos (by omega)]
        exact ih'
      | false =>
        rw [hb, if_neg (by decide), List.append_nil] at ih'
        rw [if_neg (by decide)]
        exact ih'

theorem moves_pure (a b c : Int) (ha : (Lit.int .u8 a).wf = true) (_ : (Lit.int .u16 b).wf = true) (_ : (Lit.int .i64 c).wf = true) : ∃ k, schismalaw35_EvennessMoves.f k a b c = some true := by
  obtain ⟨h0, h1⟩ := u8_range ha
  obtain ⟨n, set, hm, hv, hn⟩ := described b h0 h1
  have hn1 := hv.n1
  have hn2 := hv.n2
  obtain ⟨K, hK⟩ : ∃ K : Nat, 302 ≤ K := ⟨302, Nat.le_refl _⟩
  refine ⟨K, ?_⟩
  have hl := moves_l0 hv c n.toNat (by omega) n.toNat 0 K (by omega) (by omega) (by omega)
  have hk := known_ge (show 100 ≤ K by omega)
  have hmk := hm K (by omega)
  unfold schismalaw35_EvennessMoves.f
  rw [hk, Option.bind_some, if_pos rfl, hmk, Option.bind_some, transpose_ok hv c (by omega), Option.bind_some, rotations_ok hv (by omega), Option.bind_some, complement_ok hv (by omega), Option.bind_some, inverse_ok hv (by omega), Option.bind_some, inverse_back hv]
  exact hl
end Go.Proofs.Ytdbleoijefihhaa.PEv
