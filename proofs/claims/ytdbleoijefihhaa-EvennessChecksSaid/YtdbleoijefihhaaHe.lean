/- Plain laws: what slices.Compare and slices.Equal answer; the lexicographic order; the sorted list of lists. -/
import Derived.Test.YtdbleoijefihhaaHa
import Derived.Sort.Statements
namespace Go.Proofs.Ytdbleoijefihhaa.PEv
open Go.RowKit Go.Proofs.YtdbleoijefihhaaW.PrintWords Go.Proofs.YtdbleoijefihhaaW.PrintLast Go.Proofs.YtdbleoijefihhaaW.PrintMore
set_option linter.unusedVariables false
set_option linter.unusedSimpArgs false

theorem wrap_succ {i n : Nat} (h : i < n) (hn : n ≤ 9223372036854775807) : wrap64 ((i : Int) + 1) = ((i + 1 : Nat) : Int) := by
  unfold wrap64; omega
theorem rd_nat (l : List Int) (i : Nat) (h : i < l.length) : rd l (i : Int) = l[i] := by simp [rd, h]

theorem lexcmp_drop (xs ys : List Int) (i : Nat) (hx : i < xs.length) (hy : i < ys.length) :
    lexcmp (xs.drop i) (ys.drop i) = if xs[i] < ys[i] then -1 else if ys[i] < xs[i] then 1 else lexcmp (xs.drop (i + 1)) (ys.drop (i + 1)) := by
  rw [List.drop_eq_getElem_cons hx, List.drop_eq_getElem_cons hy]
  rfl

theorem compare_l0 (xs ys : List Int) (hx : xs.length ≤ 9223372036854775807) : ∀ (d i k : Nat), i ≤ xs.length → xs.length - i = d → d < k → (∀ j, j < i → j < ys.length) →
    slices_Compare_int_int.l0 k xs ys xs (xs.length : Int) (i : Int) = some (lexcmp (xs.drop i) (ys.drop i)) := by
  intro d
  induction d with
  | zero =>
    intro i k hi hd hk hj
    obtain ⟨k, rfl⟩ : ∃ m, k = m + 1 := ⟨k - 1, by omega⟩
    obtain rfl : i = xs.length := by omega
    simp only [slices_Compare_int_int.l0]
    rw [if_neg (by omega), List.drop_length]
    by_cases h : xs.length < ys.length
    · rw [if_pos (by omega), List.drop_eq_getElem_cons h]
      rfl
    · have : ys.length ≤ xs.length := by omega
      rw [if_neg (by omega), List.drop_of_length_le this]
      rfl
  | succ d ih =>
    intro i k hi hd hk hj
    obtain ⟨k, rfl⟩ : ∃ m, k = m + 1 := ⟨k - 1, by omega⟩
    have hlt : i < xs.length := by omega
    simp only [slices_Compare_int_int.l0]
    rw [if_pos (by omega), if_pos (by omega), if_pos (by omega)]
    by_cases hy : i < ys.length
    · rw [if_neg (by omega), if_pos (by omega), rd_nat _ _ hlt, rd_nat _ _ hy, lexcmp_drop xs ys i hlt hy]
      unfold cmp_Compare_int.f cmp_isNaN_int.f
      simp only [Option.bind_some, bne_self_eq_false, Bool.false_eq_true, if_false]
      by_cases h1 : xs[i] < ys[i]
      · rw [if_pos h1, if_pos h1]
        simp only [Option.bind_some]
        rw [if_neg (by decide)]
      · rw [if_neg h1, if_neg h1]
        by_cases h2 : ys[i] < xs[i]
        · rw [if_pos h2, if_pos h2]
          simp only [Option.bind_some]
          rw [if_neg (by decide)]
        · rw [if_neg (show ¬ xs[i] > ys[i] from h2), if_neg h2]
          simp only [Option.bind_some, if_true]
          rw [wrap_succ hlt hx]
          exact ih (i + 1) k (by omega) (by omega) (by omega) (fun j hj' => by by_cases e : j = i; (subst e; exact hy); exact hj j (by omega))
    · rw [if_pos (by omega), show ys.drop i = [] from List.drop_of_length_le (by omega), List.drop_eq_getElem_cons hlt]
      rfl
theorem compare_f (xs ys : List Int) (hx : xs.length ≤ 9223372036854775807) : slices_Compare_int_int.f (xs.length + 1) xs ys = some (lexcmp xs ys) := by
  exact compare_l0 xs ys hx xs.length 0 (xs.length + 1) (by omega) (by omega) (by omega) (fun j hj => absurd hj (Nat.not_lt_zero _))

theorem equal_l0 (xs ys : List Int) (hx : xs.length ≤ 9223372036854775807) (hl : xs.length = ys.length) : ∀ (d i k : Nat), i ≤ xs.length → xs.length - i = d → d < k →
    slices_Equal_int_int.l0 k xs ys (xs.length : Int) (i : Int) = some (decide (xs.drop i = ys.drop i)) := by
  intro d
  induction d with
  | zero =>
    intro i k hi hd hk
    obtain ⟨k, rfl⟩ : ∃ m, k = m + 1 := ⟨k - 1, by omega⟩
    obtain rfl : i = xs.length := by omega
    simp only [slices_Equal_int_int.l0]
    rw [if_neg (by omega), List.drop_length, List.drop_of_length_le (by omega)]
    rfl
  | succ d ih =>
    intro i k hi hd hk
    obtain ⟨k, rfl⟩ : ∃ m, k = m + 1 := ⟨k - 1, by omega⟩
    have hlt : i < xs.length := by omega
    have hly : i < ys.length := by omega
    simp only [slices_Equal_int_int.l0]
    rw [if_pos (by omega), if_pos (by omega), if_pos (by omega), if_pos (by omega), rd_nat _ _ hlt, rd_nat _ _ hly]
    have ex := List.drop_eq_getElem_cons hlt
    have ey := List.drop_eq_getElem_cons hly
    by_cases e : xs[i] = ys[i]
    · rw [if_pos e, wrap_succ hlt hx, ih (i + 1) k (by omega) (by omega) (by omega)]
      exact congrArg some (decide_eq_decide.2 ⟨fun h => by rw [ex, ey, e, h], fun h => by rw [ex, ey] at h; exact (List.cons.inj h).2⟩)
    · rw [if_neg e]
      exact congrArg some (decide_eq_false (fun h => by rw [ex, ey] at h; exact e (List.cons.inj h).1)).symm
theorem equal_f (xs ys : List Int) (hx : xs.length ≤ 9223372036854775807) : slices_Equal_int_int.f (xs.length + 1) xs ys = some (decide (xs = ys)) := by
  unfold slices_Equal_int_int.f
  by_cases hl : xs.length = ys.length
  · rw [if_pos (by omega)]
    have := equal_l0 xs ys hx hl xs.length 0 (xs.length + 1) (by omega) (by omega) (by omega)
    simpa using this
  · rw [if_neg (by omega)]
    have : xs ≠ ys := fun e => hl (by rw [e])
    simp [this]

/-! ### the order -/
theorem lexcmp_self : ∀ a, lexcmp a a = 0
  | [] => rfl
  | x :: xs => by unfold lexcmp; rw [if_neg (by omega), if_neg (by omega)]; exact lexcmp_self xs
theorem lexcmp_neg : ∀ a b, lexcmp b a = - lexcmp a b
  | [], [] => rfl
  | [], _ :: _ => rfl
  | _ :: _, [] => rfl
  | x :: xs, y :: ys => by
    unfold lexcmp
    by_cases h1 : x < y
    · rw [if_pos h1, if_neg (by omega), if_pos h1]; rfl
    · by_cases h2 : y < x
      · rw [if_pos h2, if_neg h1, if_pos h2]
      · rw [if_neg h1, if_neg h2, if_neg h2, if_neg h1]; exact lexcmp_neg xs ys
theorem lexcmp_zero : ∀ a b, lexcmp a b = 0 → a = b
  | [], [], _ => rfl
  | [], _ :: _, h => by simp [lexcmp] at h
  | _ :: _, [], h => by simp [lexcmp] at h
  | x :: xs, y :: ys, h => by
    unfold lexcmp at h
    by_cases h1 : x < y
    · rw [if_pos h1] at h; omega
    · rw [if_neg h1] at h
      by_cases h2 : y < x
      · rw [if_pos h2] at h; omega
      · rw [if_neg h2] at h
        rw [lexcmp_zero xs ys h, show x = y by omega]
theorem lexcmp_three : ∀ a b, lexcmp a b = -1 ∨ lexcmp a b = 0 ∨ lexcmp a b = 1
  | [], [] => .inr (.inl rfl)
  | [], _ :: _ => .inl rfl
  | _ :: _, [] => .inr (.inr rfl)
  | x :: xs, y :: ys => by
    unfold lexcmp
    by_cases h1 : x < y
    · rw [if_pos h1]; exact .inl rfl
    · rw [if_neg h1]
      by_cases h2 : y < x
      · rw [if_pos h2]; exact .inr (.inr rfl)
      · rw [if_neg h2]; exact lexcmp_three xs ys
theorem lexcmp_trans : ∀ a b c, lexcmp a b ≤ 0 → lexcmp b c ≤ 0 → lexcmp a c ≤ 0
  | [], [], _, _, h2 => h2
  | [], _ :: _, [], _, _ => by simp [lexcmp]
  | [], _ :: _, _ :: _, _, _ => by simp [lexcmp]
  | _ :: _, [], _, h, _ => by simp [lexcmp] at h
  | _ :: _, _ :: _, [], _, h => by simp [lexcmp] at h
  | x :: xs, y :: ys, z :: zs, h1, h2 => by
    unfold lexcmp at h1 h2 ⊢
    by_cases a1 : x < y
    · by_cases b1 : y < z
      · rw [if_pos (by omega)]; omega
      · rw [if_neg b1] at h2
        by_cases b2 : z < y
        · rw [if_pos b2] at h2; omega
        · rw [if_pos (by omega)]; omega
    · rw [if_neg a1] at h1
      by_cases a2 : y < x
      · rw [if_pos a2] at h1; omega
      · rw [if_neg a2] at h1
        obtain rfl : x = y := by omega
        by_cases b1 : x < z
        · rw [if_pos b1]; omega
        · rw [if_neg b1] at h2 ⊢
          by_cases b2 : z < x
          · rw [if_pos b2] at h2; omega
          · rw [if_neg b2] at h2 ⊢
            exact lexcmp_trans xs ys zs h1 h2
theorem lins_perm (x : List Int) : ∀ l, (lins x l).Perm (x :: l)
  | [] => List.Perm.refl _
  | y :: ys => by
    unfold lins
    split
    · exact List.Perm.refl _
    · exact ((lins_perm x ys).cons y).trans (List.Perm.swap x y ys)
theorem lsort_perm : ∀ l, (lsort l).Perm l
  | [] => List.Perm.refl _
  | x :: xs => (lins_perm x (lsort xs)).trans ((lsort_perm xs).cons x)
theorem lins_sorted (x : List Int) : ∀ l, l.Pairwise (fun a b => lexcmp a b ≤ 0) → (lins x l).Pairwise (fun a b => lexcmp a b ≤ 0)
  | [], _ => by simp [lins]
  | y :: ys, h => by
    unfold lins
    rw [List.pairwise_cons] at h
    split
    · rename_i hxy
      refine List.pairwise_cons.2 ⟨fun z hz => ?_, List.pairwise_cons.2 h⟩
      rcases List.mem_cons.1 hz with rfl | hz
      · exact hxy
      · exact lexcmp_trans _ _ _ hxy (h.1 z hz)
    · rename_i hxy
      refine List.pairwise_cons.2 ⟨fun z hz => ?_, lins_sorted x ys h.2⟩
      rcases List.mem_cons.1 ((lins_perm x ys).mem_iff.1 hz) with rfl | hz
      · have := lexcmp_neg z y; omega
      · exact h.1 z hz
theorem lsort_sorted : ∀ l, (lsort l).Pairwise (fun a b => lexcmp a b ≤ 0)
  | [] => List.Pairwise.nil
  | x :: xs => lins_sorted x _ (lsort_sorted xs)
theorem lsorted_unique : ∀ {l m : List (List Int)}, l.Perm m → l.Pairwise (fun a b => lexcmp a b ≤ 0) → m.Pairwise (fun a b => lexcmp a b ≤ 0) → l = m
  | [], m, hp, _, _ => hp.nil_eq
  | x :: l, [], hp, _, _ => absurd hp.symm.nil_eq (by simp)
  | x :: l, y :: m, hp, h1, h2 => by
    rw [List.pairwise_cons] at h1 h2
    have hxy : x = y := by
      have a : x ∈ y :: m := hp.mem_iff.1 (by simp)
      have b : y ∈ x :: l := hp.mem_iff.2 (by simp)
      rcases List.mem_cons.1 a with e | a
      · exact e
      rcases List.mem_cons.1 b with e | b
      · exact e.symm
      have c1 := h1.1 y b
      have c2 := h2.1 x a
      have c3 := lexcmp_neg x y
      exact lexcmp_zero x y (by omega)
    subst hxy
    rw [lsorted_unique (hp.cons_inv) h1.2 h2.2]
theorem lsort_length (l : List (List Int)) : (lsort l).length = l.length := (lsort_perm l).length_eq
theorem dedup_length_le {α : Type} [DecidableEq α] : ∀ (l : List α), (dedup l).length ≤ l.length
  | [] => Nat.le_refl _
  | [_] => Nat.le_refl _
  | x :: y :: ys => by
    have h := dedup_length_le (y :: ys)
    unfold dedup
    split
    · exact Nat.le_succ_of_le h
    · simpa using h
end Go.Proofs.Ytdbleoijefihhaa.PEv
