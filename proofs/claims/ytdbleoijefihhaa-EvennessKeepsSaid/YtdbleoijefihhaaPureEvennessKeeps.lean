/- For any n up to 30, any number of notes and any shift, Make is maximally even, and so are its complement, its inverse, and it moved by any steps; the number of its rotations divides n: the law EvennessKeeps, for all values of its three parameters. -/
import Derived.Test.YtdbleoijefihhaaPr
import Derived.Test.YtdbleoijefihhaaPEvx14
namespace Go.Proofs.Ytdbleoijefihhaa.PEv
open Go.RowKit Go.Proofs.YtdbleoijefihhaaW.PrintWords Go.Proofs.YtdbleoijefihhaaW.PrintLast Go.Proofs.YtdbleoijefihhaaW.PrintMore
set_option linter.unusedVariables false
set_option linter.unusedSimpArgs false

theorem rdL_nat (l : List (List Int)) (i : Nat) (h : i < l.length) : rd_L1 l (i : Int) = l[i] := by simp [rd_L1, h]
theorem keeps_l0 {n : Int} (xs : List (List Int)) (hx : ∀ x ∈ xs, ∀ K, 200 < K → evenness_IsEven.f K n x = some (true, 0, 0, 0, 0)) (hl : xs.length ≤ 10) : ∀ (d i k : Nat), i ≤ xs.length → xs.length - i = d → d + 210 < k →
    schismalaw35_EvennessKeeps.l0 k n xs (xs.length : Int) (i : Int) = some true := by
  intro d
  induction d with
  | zero =>
    intro i k hi hd hk
    obtain ⟨k, rfl⟩ : ∃ j, k = j + 1 := ⟨k - 1, by omega⟩
    simp only [schismalaw35_EvennessKeeps.l0]
    rw [if_neg (by omega)]
  | succ d ih =>
    intro i k hi hd hk
    obtain ⟨k, rfl⟩ : ∃ j, k = j + 1 := ⟨k - 1, by omega⟩
    have hlt : i < xs.length := by omega
    simp only [schismalaw35_EvennessKeeps.l0]
    rw [if_pos (by omega), if_pos (by omega), if_pos (by omega), rdL_nat _ _ hlt, hx _ (List.getElem_mem hlt) k (by omega), Option.bind_some, if_pos rfl, if_pos rfl, wrap_succ hlt (by omega)]
    exact ih (i + 1) k (by omega) (by omega) (by omega)
theorem keeps_j0 {n s by_ : Int} {m : Nat} (hm : 0 < m) (hmn : (m : Int) ≤ n) (h60 : n ≤ 60) {k : Nat} (hk : 300 < k) :
    schismalaw35_EvennessKeeps.j0 k n (m : Int) (E n m s) (E n m (s + (m : Int) * by_)) (E n m ((m : Int) - 1 - s)) false = some true := by
  have hv := E_valid (s := s) hm hmn h60
  have he : ∀ t, ∀ K, 200 < K → evenness_IsEven.f K n (E n m t) = some (true, 0, 0, 0, 0) := fun t K hK => E_iseven hm hmn h60 hK
  obtain ⟨k, rfl⟩ : ∃ j, k = j + 2 := ⟨k - 2, by omega⟩
  simp only [schismalaw35_EvennessKeeps.j0, Bool.false_eq_true, if_false, Option.bind_some]
  rw [complement_ok hv (by omega), Option.bind_some, comp_E hm hmn h60]
  by_cases c : E n (n - (m : Int)) (-s - 1) = []
  · have hmn2 : (m : Int) = n := by
      by_cases e : (m : Int) = n
      · exact e
      · have h1 := E_length (n := n) (s := -s - 1) (k := (n - (m : Int)).toNat) (by omega) (by omega)
        rw [Int.toNat_of_nonneg (by omega), c] at h1
        simp at h1
        omega
    rw [if_pos c, if_neg (show ¬ (13 : Int) = 0 by omega), if_pos rfl, if_pos hmn2]
    simp only [schismalaw35_EvennessKeeps.j1]
    refine keeps_l0 _ (fun x hx => ?_) (by simp) 3 0 k (by simp) (by simp) (by omega)
    simp only [List.mem_cons, List.not_mem_nil, or_false] at hx
    rcases hx with rfl | rfl | rfl <;> exact he _
  · rw [if_neg c, if_pos rfl, if_pos (by simp)]
    simp only [schismalaw35_EvennessKeeps.j1]
    refine keeps_l0 _ (fun x hx => ?_) (by simp) 4 0 k (by simp) (by simp) (by omega)
    simp only [List.cons_append, List.nil_append, List.mem_cons, List.not_mem_nil, or_false] at hx
    rcases hx with rfl | rfl | rfl | rfl
    · exact he _
    · exact he _
    · exact he _
    · intro K hK
      have hlt : (m : Int) < n := by
        by_cases e : (m : Int) < n
        · exact e
        · exfalso
          apply c
          have : n - (m : Int) = 0 := by omega
          rw [this]
          refine List.eq_nil_iff_forall_not_mem.2 (fun x hx => ?_)
          have h1 := ((mem_E (by omega) x).1 hx).2.2
          unfold bt at h1
          have h2 := of_decide_eq_true h1
          have h3 := Int.emod_nonneg (-s - 1 - 0 * x) (show n ≠ 0 by omega)
          omega
      have := E_iseven (n := n) (s := -s - 1) (k := (n - (m : Int)).toNat) (by omega) (by omega) h60 hK
      rw [Int.toNat_of_nonneg (by omega)] at this
      exact this
end Go.Proofs.Ytdbleoijefihhaa.PEv
namespace Go.Proofs.Ytdbleoijefihhaa.Pure
open Go.RowKit Go.Proofs.Ytdbleoijefihhaa.PEv Go.Proofs.YtdbleoijefihhaaW.PrintWords Go.Proofs.YtdbleoijefihhaaW.PrintLast

theorem EvennessKeeps : schismalaw35_EvennessKeeps.Pure := by
  intro a b c ha hb hc
  obtain ⟨a0, a1⟩ := u8_range ha
  obtain ⟨b0, b1⟩ := u8_range hb
  obtain ⟨c0, c1⟩ := u8_range hc
  obtain ⟨K, hK⟩ : ∃ K : Nat, 400 ≤ K := ⟨400, Nat.le_refl _⟩
  refine ⟨K, ?_⟩
  obtain ⟨n, hn, n1, n2⟩ : ∃ n : Int, wrap64 (1 + (wrap64 (Int.tmod a 30))) = n ∧ 1 ≤ n ∧ n ≤ 30 := by
    have e : Int.tmod a 30 = a % 30 := by rw [Int.tmod_eq_emod_of_nonneg a0]
    refine ⟨1 + a % 30, ?_, ?_, ?_⟩ <;> (try rw [e]) <;> (try unfold wrap64) <;> omega
  have wb : wrap64 b = b := by unfold wrap64; omega
  have wc : wrap64 c = c := by unfold wrap64; omega
  obtain ⟨m, hm, m1, m2⟩ : ∃ m : Nat, wrap64 (1 + (Int.tmod (wrap64 b) n)) = (m : Int) ∧ 1 ≤ m ∧ (m : Int) ≤ n := by
    rw [wb]
    have e : Int.tmod b n = b % n := by rw [Int.tmod_eq_emod_of_nonneg b0]
    have h0 := Int.emod_nonneg b (show n ≠ 0 by omega)
    have h1 := Int.emod_lt_of_pos b (show 0 < n by omega)
    refine ⟨(1 + b % n).toNat, ?_, ?_, ?_⟩ <;> (try rw [e]) <;> (try unfold wrap64) <;> omega
  obtain ⟨s, hs, s0, s1⟩ : ∃ s : Int, Int.tmod (wrap64 c) (m : Int) = s ∧ 0 ≤ s ∧ s < (m : Int) := by
    rw [wc]
    obtain ⟨t0, t1⟩ := tmod_range (m := m) c0 (by omega)
    exact ⟨_, rfl, t0, t1⟩
  have hE := makeL_E (s := s) (show 0 < m by omega) m2 (show n ≤ 60 by omega) s0 s1
  have hmk : evenness_Make.f K n (m : Int) s = some (E n m s, 0) := by rw [make_ok n1 (by omega) (by omega) m2 s0 s1 (by omega), hE]
  have hv := E_valid (s := s) (show 0 < m by omega) m2 (show n ≤ 60 by omega)
  have hk := known_ge (show 100 ≤ K by omega)
  have e1 : ¬ n = 0 := by omega
  have e2 : ¬ (m : Int) = 0 := by omega
  have htr := transpose_ok hv c (show 200 < K by omega)
  rw [movL_E (show 0 < m by omega) m2 (show n ≤ 60 by omega)] at htr
  have hin := inverse_ok hv (show 200 < K by omega)
  rw [inverse_E (show 0 < m by omega) m2 (show n ≤ 60 by omega)] at hin
  have hro := rotations_ok hv (show 200 < K by omega)
  obtain ⟨r0, r1, r2⟩ := rotations_count hv
  generalize hR : dedup (lsort (rots n (E n m s))) = R at hro r0 r1 r2
  have e3 : ¬ (R.length : Int) = 0 := by omega
  have e4 : (Int.tmod n (R.length : Int) != 0) = false := by
    rw [Int.tmod_eq_emod_of_nonneg (by omega), r2]
    rfl
  have hj := keeps_j0 (n := n) (s := s) (by_ := c) (m := m) (by omega) m2 (by omega) (show 300 < K by omega)
  unfold schismalaw35_EvennessKeeps.f
  rw [hn, hm, hs, wc, hk, Option.bind_some, if_pos rfl, if_neg e1, if_neg e2, hmk, Option.bind_some, if_pos rfl, htr, Option.bind_some, hin, Option.bind_some, hro, Option.bind_some, if_pos rfl, if_pos rfl, if_pos rfl, if_neg e3, e4]
  exact hj

end Go.Proofs.Ytdbleoijefihhaa.Pure
