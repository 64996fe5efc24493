/- Plain laws: described sets, and that Check lets them by. -/
import Derived.Test.YtdbleoijefihhaaPg
namespace Go.Proofs.Ytdbleoijefihhaa.PEv
open Go.RowKit Go.Proofs.YtdbleoijefihhaaW.PrintWords Go.Proofs.YtdbleoijefihhaaW.PrintLast Go.Proofs.YtdbleoijefihhaaW.PrintMore
set_option linter.unusedVariables false
set_option linter.unusedSimpArgs false

/-- A right set of a division. -/
structure Valid (n : Int) (set : List Int) : Prop where
  n1 : 1 ≤ n
  n2 : n ≤ 60
  ne : set ≠ []
  lt : set.Pairwise (· < ·)
  rng : ∀ x ∈ set, 0 ≤ x ∧ x < n

theorem sorted_ge : ∀ (l : List Int) (b : Int), l.Pairwise (· < ·) → (∀ x ∈ l, b ≤ x) → ∀ i (h : i < l.length), b + (i : Int) ≤ l[i]
  | [], _, _, _, _, h => by simp at h
  | x :: l, b, hp, hb, i, h => by
    rw [List.pairwise_cons] at hp
    cases i with
    | zero => have := hb x (by simp); simpa using this
    | succ i =>
      have hx := hb x (by simp)
      have := sorted_ge l (b + 1) hp.2 (fun y hy => by have := hp.1 y hy; omega) i (by simpa using h)
      simp only [List.getElem_cons_succ]
      omega
theorem Valid.len_le {n : Int} {set : List Int} (h : Valid n set) : (set.length : Int) ≤ n := by
  have hne := h.ne
  have hl : 0 < set.length := List.length_pos_iff.2 hne
  have h1 := sorted_ge set 0 h.lt (fun x hx => (h.rng x hx).1) (set.length - 1) (by omega)
  have h2 := (h.rng _ (List.getElem_mem (show set.length - 1 < set.length by omega))).2
  omega
theorem Valid.len_pos {n : Int} {set : List Int} (h : Valid n set) : 0 < set.length := List.length_pos_iff.2 h.ne
theorem Valid.len60 {n : Int} {set : List Int} (h : Valid n set) : set.length ≤ 60 := by have := h.len_le; have := h.n2; omega
theorem Valid.get {n : Int} {set : List Int} (h : Valid n set) (i : Nat) (hi : i < set.length) : 0 ≤ set[i] ∧ set[i] < n := h.rng _ (List.getElem_mem hi)
theorem Valid.mono {n : Int} {set : List Int} (h : Valid n set) (i j : Nat) (hij : i < j) (hj : j < set.length) : set[i] < set[j] := List.pairwise_iff_getElem.1 h.lt i j (by omega) hj hij

theorem check_l0 {n : Int} {set : List Int} (h : Valid n set) : ∀ (d i k : Nat), i ≤ set.length → set.length - i = d → 2 * d + 1 < k → evenness_Check.l0 k n set set (set.length : Int) (i : Int) = some 0 := by
  intro d
  induction d with
  | zero =>
    intro i k hi hd hk
    obtain ⟨k, rfl⟩ : ∃ j, k = j + 1 := ⟨k - 1, by omega⟩
    simp only [evenness_Check.l0]
    rw [if_neg (by omega)]
  | succ d ih =>
    intro i k hi hd hk
    obtain ⟨k, rfl⟩ : ∃ j, k = j + 2 := ⟨k - 2, by omega⟩
    have hlt : i < set.length := by omega
    have hg := h.get i hlt
    have h60 := h.len60
    simp only [evenness_Check.l0]
    rw [if_pos (by omega), if_pos (by omega), if_pos (by omega), rd_nat _ _ hlt, if_neg (by omega), decide_eq_false (by omega)]
    simp only [evenness_Check.j1, Bool.false_eq_true, if_false]
    have hw := wrap_succ hlt (show set.length ≤ 9223372036854775807 by omega)
    by_cases h0 : i = 0
    · subst h0
      rw [if_neg (by omega), hw]
      exact ih 1 k (by omega) (by omega) (by omega)
    · have hm : wrap64 ((i : Int) - 1) = ((i - 1 : Nat) : Int) := by unfold wrap64; omega
      have hl2 : i - 1 < set.length := by omega
      have hmono := h.mono (i - 1) i (by omega) hlt
      rw [if_pos (by omega), hm, if_pos (by omega), if_pos (by omega), rd_nat _ _ hl2, if_neg (by omega), hw]
      exact ih (i + 1) k (by omega) (by omega) (by omega)
theorem check_ok {n : Int} {set : List Int} (h : Valid n set) {k : Nat} (hk : 122 < k) : evenness_Check.f k n set = some 0 := by
  have h1 := h.n1
  have h2 := h.n2
  have h3 := h.len_pos
  have h4 := h.len60
  unfold evenness_Check.f evenness_division.f
  rw [if_neg (by omega), if_neg (by omega)]
  simp only [Option.bind_some, if_true]
  rw [if_neg (by omega)]
  exact check_l0 h set.length 0 k (by omega) (by omega) (by omega)

theorem described_l0 (m : Nat) (hm1 : 1 ≤ m) (hm2 : m ≤ 14) (a b : Int) : ∀ (d i k : Nat) (out : List Int), i ≤ m → m - i = d → d < k → out.Pairwise (· < ·) → (∀ x ∈ out, 0 ≤ x ∧ x < (i : Int)) → out.length ≤ i →
    ∃ set, schismalaw35_Make.l0 k (m : Int) out (m : Int) (i : Int) a b = some ((m : Int), set) ∧ Valid (m : Int) set := by
  intro d
  induction d with
  | zero =>
    intro i k out hi hd hk hp hr hl
    obtain ⟨k, rfl⟩ : ∃ j, k = j + 1 := ⟨k - 1, by omega⟩
    simp only [schismalaw35_Make.l0]
    rw [if_neg (by omega)]
    by_cases e : out.length = 0
    · rw [if_pos (by omega)]
      exact ⟨_, rfl, by omega, by omega, by simp, by simp, fun x hx => by simp at hx; omega⟩
    · rw [if_neg (by omega)]
      exact ⟨_, rfl, by omega, by omega, fun h => e (by rw [h]; rfl), hp, fun x hx => by have := hr x hx; omega⟩
  | succ d ih =>
    intro i k out hi hd hk hp hr hl
    obtain ⟨k, rfl⟩ : ∃ j, k = j + 1 := ⟨k - 1, by omega⟩
    simp only [schismalaw35_Make.l0]
    rw [if_pos (by omega), if_pos (by omega), wrap_succ (show i < m by omega) (by omega)]
    by_cases e : (Go.bits .and .u16 (shr .u16 b (i : Int)) 1) = 1
    · rw [if_pos e, if_pos (by omega)]
      refine ih (i + 1) k _ (by omega) (by omega) (by omega) ?_ (fun x hx => ?_) (by simp; omega)
      · rw [List.pairwise_append]
        exact ⟨hp, by simp, fun x hx y hy => by simp at hy; have := hr x hx; omega⟩
      · rcases List.mem_append.1 hx with hx | hx
        · have := hr x hx; omega
        · simp at hx; omega
    · rw [if_neg e]
      exact ih (i + 1) k _ (by omega) (by omega) (by omega) hp (fun x hx => by have := hr x hx; omega) (by omega)
theorem described {a : Int} (b : Int) (h0 : 0 ≤ a) (h1 : a ≤ 255) : ∃ n set, (∀ k, 20 < k → schismalaw35_Make.f k a b = some (n, set)) ∧ Valid n set ∧ n ≤ 14 := by
  obtain ⟨m, hm⟩ : ∃ m : Nat, wrap64 (1 + (wrap64 (Int.tmod a 14))) = (m : Int) ∧ 1 ≤ m ∧ m ≤ 14 := by
    have e : Int.tmod a 14 = a % 14 := by rw [Int.tmod_eq_emod_of_nonneg h0]
    refine ⟨(1 + a % 14).toNat, ?_, ?_, ?_⟩ <;> (try rw [e]) <;> (try unfold wrap64) <;> omega
  obtain ⟨hm, h2, h3⟩ := hm
  obtain ⟨set, hs, hv⟩ := described_l0 m h2 h3 a b m 0 20 [] (Nat.zero_le _) (by omega) (by omega) List.Pairwise.nil (fun x hx => by simp at hx) (Nat.le_refl _)
  refine ⟨m, set, fun k hk => ?_, hv, by omega⟩
  refine at_rounds (schismalaw35_Make.mono _ _) (k := 20) (by omega) ?_
  unfold schismalaw35_Make.f
  rw [hm]
  exact hs
theorem u8_range {a : Int} (h : (Lit.int .u8 a).wf = true) : 0 ≤ a ∧ a ≤ 255 := by
  simp only [Lit.wf, Bool.and_eq_true, decide_eq_true_eq] at h
  exact ⟨h.1, h.2⟩
end Go.Proofs.Ytdbleoijefihhaa.PEv
