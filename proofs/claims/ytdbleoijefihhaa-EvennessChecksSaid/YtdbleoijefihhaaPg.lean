/- Plain laws: what Index, Contains, Check and the chains answer. -/
import Derived.Test.YtdbleoijefihhaaPk
import Derived.Test.YtdbleoijefihhaaPEvx9
namespace Go.Proofs.Ytdbleoijefihhaa.PEv
open Go.RowKit Go.Proofs.YtdbleoijefihhaaW.PrintWords Go.Proofs.YtdbleoijefihhaaW.PrintLast Go.Proofs.YtdbleoijefihhaaW.PrintMore
set_option linter.unusedVariables false
set_option linter.unusedSimpArgs false

theorem index_l0 (l : List Int) (x : Int) (hl : l.length ≤ 9223372036854775807) : ∀ (d i k : Nat), i ≤ l.length → l.length - i = d → d < k →
    ∃ r, slices_Index_int_int.l0 k l x (l.length : Int) (i : Int) = some r ∧ (0 ≤ r ↔ x ∈ l.drop i) := by
  intro d
  induction d with
  | zero =>
    intro i k hi hd hk
    obtain ⟨k, rfl⟩ : ∃ j, k = j + 1 := ⟨k - 1, by omega⟩
    refine ⟨-1, ?_, ?_⟩
    · simp only [slices_Index_int_int.l0]; rw [if_neg (by omega)]
    · rw [List.drop_of_length_le (by omega)]; simp
  | succ d ih =>
    intro i k hi hd hk
    obtain ⟨k, rfl⟩ : ∃ j, k = j + 1 := ⟨k - 1, by omega⟩
    have hlt : i < l.length := by omega
    simp only [slices_Index_int_int.l0]
    rw [if_pos (by omega), if_pos (by omega), if_pos (by omega), rd_nat _ _ hlt]
    have ex := List.drop_eq_getElem_cons hlt
    by_cases e : x = l[i]
    · refine ⟨i, by rw [if_pos e], ?_⟩
      exact ⟨fun _ => by rw [ex]; exact List.mem_cons.2 (.inl e), fun _ => by omega⟩
    · obtain ⟨r, hr, hiff⟩ := ih (i + 1) k (by omega) (by omega) (by omega)
      refine ⟨r, by rw [if_neg e, wrap_succ hlt hl]; exact hr, ?_⟩
      rw [hiff, ex, List.mem_cons]
      exact ⟨.inr, fun h => h.resolve_left e⟩
theorem contains_f (l : List Int) (x : Int) (hl : l.length ≤ 9223372036854775807) {k : Nat} (hk : l.length < k) : slices_Contains_int_int.f k l x = some (decide (x ∈ l)) := by
  obtain ⟨r, hr, hiff⟩ := index_l0 l x hl l.length 0 k (by omega) (by omega) hk
  unfold slices_Contains_int_int.f slices_Index_int_int.f
  rw [show ((0 : Nat) : Int) = 0 from rfl] at hr
  rw [hr]
  simp only [Option.bind_some]
  rw [List.drop_zero] at hiff
  exact congrArg some (decide_eq_decide.2 hiff)

/-- A chain of notes; none if two of them are the same. -/
def chain (n g s : Int) : Nat → Nat → List Int → Option (List Int)
  | 0, _, out => some (isort out)
  | d + 1, i, out => if (Int.tmod (wrap64 (s + (wrap64 ((i : Int) * g)))) n) ∈ out then none else chain n g s d (i + 1) (out ++ [Int.tmod (wrap64 (s + (wrap64 ((i : Int) * g)))) n])

theorem generated_l0 (n g s : Int) (hn : n ≠ 0) (m : Nat) (hm2 : m ≤ 60) : ∀ (d i k : Nat) (out : List Int), i ≤ m → m - i = d → d + 70 < k → out.length = i →
    evenness_Generated.l0 k n g s out m i = some (match chain n g s d i out with | some l => (l, 0) | none => ([], 14)) := by
  intro d
  induction d with
  | zero =>
    intro i k out hi hd hk ho
    obtain ⟨k, rfl⟩ : ∃ j, k = j + 1 := ⟨k - 1, by omega⟩
    simp only [evenness_Generated.l0, chain, slices_Sort_int_int.f]
    rw [if_neg (by omega), if_pos (by omega)]
    rfl
  | succ d ih =>
    intro i k out hi hd hk ho
    obtain ⟨k, rfl⟩ : ∃ j, k = j + 1 := ⟨k - 1, by omega⟩
    simp only [evenness_Generated.l0, chain]
    rw [if_pos (by omega), if_neg hn, contains_f _ _ (by omega) (by omega)]
    simp only [Option.bind_some]
    by_cases e : (Int.tmod (wrap64 (s + (wrap64 ((i : Int) * g)))) n) ∈ out
    · rw [decide_eq_true e, if_pos rfl, if_pos e]
    · rw [decide_eq_false e, if_neg (by decide), if_neg e, if_pos (by omega), wrap_succ (show i < m by omega) (by omega)]
      exact ih (i + 1) k _ (by omega) (by omega) (by omega) (by simp [ho])
theorem lgenerated_l0 (n g s : Int) (hn : n ≠ 0) (m : Nat) (hm2 : m ≤ 60) : ∀ (d i k : Nat) (out : List Int), i ≤ m → m - i = d → d + 70 < k → out.length = i →
    schismalaw35_generated.l0 k n g s out m i = some (match chain n g s d i out with | some l => (l, true) | none => ([], false)) := by
  intro d
  induction d with
  | zero =>
    intro i k out hi hd hk ho
    obtain ⟨k, rfl⟩ : ∃ j, k = j + 1 := ⟨k - 1, by omega⟩
    simp only [schismalaw35_generated.l0, chain, slices_Sort_int_int.f]
    rw [if_neg (by omega), if_pos (by omega)]
    rfl
  | succ d ih =>
    intro i k out hi hd hk ho
    obtain ⟨k, rfl⟩ : ∃ j, k = j + 1 := ⟨k - 1, by omega⟩
    simp only [schismalaw35_generated.l0, chain]
    rw [if_pos (by omega), if_neg hn, contains_f _ _ (by omega) (by omega)]
    simp only [Option.bind_some]
    by_cases e : (Int.tmod (wrap64 (s + (wrap64 ((i : Int) * g)))) n) ∈ out
    · rw [decide_eq_true e, if_pos rfl, if_pos e]
    · rw [decide_eq_false e, if_neg (by decide), if_neg e, if_pos (by omega), wrap_succ (show i < m by omega) (by omega)]
      exact ih (i + 1) k _ (by omega) (by omega) (by omega) (by simp [ho])

theorem generated_ok {n g m s : Int} {k : Nat} (h1 : 1 ≤ n) (h2 : n ≤ 60) (h3 : 1 ≤ m) (h4 : m ≤ n) (h5 : 0 ≤ g) (h6 : g < n) (h7 : 0 ≤ s) (h8 : s < n) (hk : 140 < k) :
    evenness_Generated.f k n g m s = some (match chain n g s m.toNat 0 [] with | some l => (l, 0) | none => ([], 14)) := by
  unfold evenness_Generated.f evenness_division.f
  rw [if_neg (by omega), if_neg (by omega)]
  simp only [Option.bind_some, if_true]
  rw [if_neg (by omega), if_neg (by omega), if_neg (by omega), if_neg (by omega), if_neg (by omega), decide_eq_false (by omega)]
  obtain ⟨k, rfl⟩ : ∃ j, k = j + 1 := ⟨k - 1, by omega⟩
  simp only [evenness_Generated.j0, Bool.false_eq_true, if_false]
  obtain ⟨m, rfl⟩ : ∃ j : Nat, m = (j : Int) := ⟨m.toNat, by omega⟩
  rw [Int.toNat_natCast]
  exact generated_l0 n g s (by omega) m (by omega) m 0 k [] (Nat.zero_le _) (by omega) (by omega) rfl
theorem lgenerated_ok {n g m s : Int} {k : Nat} (h1 : 1 ≤ n) (h2 : n ≤ 60) (h3 : 1 ≤ m) (h4 : m ≤ n) (hk : 140 < k) :
    schismalaw35_generated.f k n g m s = some (match chain n g s m.toNat 0 [] with | some l => (l, true) | none => ([], false)) := by
  unfold schismalaw35_generated.f
  obtain ⟨m, rfl⟩ : ∃ j : Nat, m = (j : Int) := ⟨m.toNat, by omega⟩
  rw [Int.toNat_natCast]
  exact lgenerated_l0 n g s (by omega) m (by omega) m 0 k [] (Nat.zero_le _) (by omega) (by omega) rfl
theorem generated_bad {n g m s : Int} {k : Nat} (h : n < 1 ∨ 60 < n ∨ m < 1 ∨ n < m ∨ g < 0 ∨ n ≤ g ∨ s < 0 ∨ n ≤ s) (hk : 1 < k) : evenness_Generated.f k n g m s = some ([], 3) := by
  obtain ⟨k, rfl⟩ : ∃ j, k = j + 1 := ⟨k - 1, by omega⟩
  unfold evenness_Generated.f evenness_division.f
  by_cases c1 : n < 1
  · rw [if_pos c1]; rfl
  rw [if_neg c1]
  by_cases c2 : n > 60
  · rw [if_pos c2]; rfl
  rw [if_neg c2]
  simp only [Option.bind_some, if_true]
  by_cases c3 : m < 1
  · rw [if_pos c3]; rfl
  rw [if_neg c3]
  by_cases c4 : m > n
  · rw [if_pos c4]; rfl
  rw [if_neg c4]
  by_cases c5 : g < 0
  · rw [if_pos c5]; rfl
  rw [if_neg c5]
  by_cases c6 : g ≥ n
  · rw [if_pos c6]; rfl
  rw [if_neg c6]
  by_cases c7 : s < 0
  · rw [if_pos c7]; rfl
  rw [if_neg c7, decide_eq_true (show s ≥ n by omega)]
  rfl
theorem chain_length {n g s : Int} : ∀ (d i : Nat) (out l : List Int), chain n g s d i out = some l → l.length = out.length + d
  | 0, i, out, l, h => by obtain rfl := Option.some.inj h; rw [isort_length]; rfl
  | d + 1, i, out, l, h => by
    unfold chain at h
    split at h
    · cases h
    · have := chain_length d (i + 1) _ l h
      simp at this
      omega
end Go.Proofs.Ytdbleoijefihhaa.PEv
