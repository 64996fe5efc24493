/- For any described set and any class, the spectrum of the class and that of the rest of the notes add up to n, size by size: the law EvennessSpectra in its plain form. -/
import Derived.Test.YtdbleoijefihhaaPs
import Derived.Test.YtdbleoijefihhaaPm
import Derived.Test.YtdbleoijefihhaaPEvx16
namespace Go.Proofs.Ytdbleoijefihhaa.PEv
open Go.RowKit Go.Proofs.YtdbleoijefihhaaW.PrintWords Go.Proofs.YtdbleoijefihhaaW.PrintLast Go.Proofs.YtdbleoijefihhaaW.PrintMore
set_option linter.unusedVariables false
set_option linter.unusedSimpArgs false

theorem sz1_plain {n : Int} {set : List Int} (hv : Valid n set) (d : Nat) (hd : d ≤ set.length) (i : Nat) (hi : i < set.length) :
    sz1 n set (d : Int) i = if h : i + d < set.length then set[i + d] - set[i] else (if h2 : i + d - set.length < set.length then set[i + d - set.length] + n - set[i] else 0) := by
  have h60 := hv.len60
  have hn := hv.n2
  have hn1 := hv.n1
  have gi := hv.get i hi
  have hw : wrap64 ((i : Int) + (d : Int)) = ((i + d : Nat) : Int) := by unfold wrap64; omega
  unfold sz1
  rw [hw, rd_nat _ _ hi, Int.tmod_eq_emod_of_nonneg (by omega), Int.tdiv_eq_ediv_of_nonneg (by omega)]
  by_cases h : i + d < set.length
  · rw [dif_pos h, Int.emod_eq_of_lt (by omega) (by omega), Int.ediv_eq_zero_of_lt (by omega) (by omega), rd_nat _ _ h]
    have gj := hv.get (i + d) h
    unfold wrap64
    omega
  · have h2 : i + d - set.length < set.length := by omega
    rw [dif_neg h, dif_pos h2]
    have e1 : ((i + d : Nat) : Int) % (set.length : Int) = ((i + d - set.length : Nat) : Int) := by
      rw [show ((i + d : Nat) : Int) = ((i + d - set.length : Nat) : Int) + (set.length : Int) by omega, Int.add_emod_right, Int.emod_eq_of_lt (by omega) (by omega)]
    have e2 : ((i + d : Nat) : Int) / (set.length : Int) = 1 := by
      rw [show ((i + d : Nat) : Int) = ((i + d - set.length : Nat) : Int) + (set.length : Int) * 1 by omega, Int.add_mul_ediv_left _ _ (by omega), Int.ediv_eq_zero_of_lt (by omega) (by omega)]
      rfl
    rw [e1, e2, rd_nat _ _ h2]
    have gj := hv.get _ h2
    have w1 : wrap64 1 = 1 := by unfold wrap64; omega
    rw [w1, Int.one_mul]
    unfold wrap64
    omega

/-- The place that i comes to. -/
def rot (K d i : Nat) : Nat := if i + d < K then i + d else i + d - K
theorem rot_perm (K d : Nat) (hd : d ≤ K) : ((List.range K).map (rot K d)).Perm (List.range K) := by
  have h1 : (List.range K).map (rot K d) = List.range' d (K - d) ++ List.range d := by
    apply List.ext_getElem
    · simp; omega
    · intro i a b
      simp only [List.length_map, List.length_range] at a
      simp only [List.getElem_map, List.getElem_range, rot]
      by_cases h : i + d < K
      · rw [if_pos h, List.getElem_append_left (by simp; omega)]
        simp; omega
      · rw [if_neg h, List.getElem_append_right (by simp; omega)]
        simp; omega
  have h2 : List.range K = List.range d ++ List.range' d (K - d) := by
    apply List.ext_getElem
    · simp; omega
    · intro i a b
      simp only [List.length_range] at a
      simp only [List.getElem_range]
      by_cases h : i < d
      · rw [List.getElem_append_left (by simpa using h)]; simp
      · rw [List.getElem_append_right (by simp; omega)]; simp; omega
  rw [h1]
  exact List.perm_append_comm.trans (by rw [← h2])

theorem sizes_add {n : Int} {set : List Int} (hv : Valid n set) (d : Nat) (hd : d ≤ set.length) (i : Nat) (hi : i < set.length) :
    sz1 n set ((set.length - d : Nat) : Int) (rot set.length d i) = n - sz1 n set (d : Int) i := by
  have hr : rot set.length d i < set.length := by unfold rot; split <;> omega
  rw [sz1_plain hv _ (by omega) _ hr, sz1_plain hv d hd i hi]
  unfold rot
  by_cases h : i + d < set.length
  · simp only [if_pos h]
    rw [dif_neg (by omega), dif_pos (by omega), dif_pos h]
    have e : i + d + (set.length - d) - set.length = i := by omega
    simp only [e]
    omega
  · simp only [if_neg h]
    have h2 : i + d - set.length < set.length := by omega
    rw [dif_neg h, dif_pos h2]
    by_cases h3 : i + d - set.length + (set.length - d) < set.length
    · rw [dif_pos h3]
      have e : i + d - set.length + (set.length - d) = i := by omega
      simp only [e]
      omega
    · omega
theorem szL_perm {n : Int} {set : List Int} (hv : Valid n set) (d : Nat) (hd : d ≤ set.length) : (szL n set ((set.length - d : Nat) : Int)).Perm ((szL n set (d : Int)).map fun x => n - x) := by
  have h := (rot_perm set.length d hd).map (sz1 n set ((set.length - d : Nat) : Int))
  rw [List.map_map] at h
  have e : (List.range set.length).map (sz1 n set ((set.length - d : Nat) : Int) ∘ rot set.length d) = (szL n set (d : Int)).map fun x => n - x := by
    unfold szL
    rw [List.map_map]
    apply List.map_congr_left
    intro i hi
    exact sizes_add hv d hd i (List.mem_range.1 hi)
  rw [e] at h
  exact h.symm
theorem spectra_rev {n : Int} {set : List Int} (hv : Valid n set) (d : Nat) (hd : d ≤ set.length) : dedup (isort (szL n set ((set.length - d : Nat) : Int))) = ((dedup (isort (szL n set (d : Int)))).map fun x => n - x).reverse := by
  refine strict_ext (dedup_strict _ (isort_sorted _)) ?_ (fun x => ?_)
  · rw [List.pairwise_reverse, List.pairwise_map]
    exact (dedup_strict _ (isort_sorted _)).imp (fun {a b} h => by omega)
  · rw [mem_dedup, mem_isort, (szL_perm hv d hd).mem_iff, List.mem_reverse, List.mem_map, List.mem_map]
    constructor
    · rintro ⟨y, hy, e⟩
      exact ⟨y, by rw [mem_dedup, mem_isort]; exact hy, e⟩
    · rintro ⟨y, hy, e⟩
      rw [mem_dedup, mem_isort] at hy
      exact ⟨y, hy, e⟩

theorem spectra_l0 {n : Int} (h1 : 1 ≤ n) (h2 : n ≤ 60) (A : List Int) (hA : A.length ≤ 60) : ∀ (d i k : Nat), i ≤ A.length → A.length - i = d → d < k →
    schismalaw35_EvennessSpectra.l0 k n A ((A.map fun x => n - x).reverse) (A.length : Int) (i : Int) = some true := by
  intro d
  induction d with
  | zero =>
    intro i k hi hd hk
    obtain ⟨k, rfl⟩ : ∃ j, k = j + 1 := ⟨k - 1, by omega⟩
    simp only [schismalaw35_EvennessSpectra.l0]
    rw [if_neg (by omega)]
  | succ d ih =>
    intro i k hi hd hk
    obtain ⟨k, rfl⟩ : ∃ j, k = j + 1 := ⟨k - 1, by omega⟩
    have hlt : i < A.length := by omega
    have hl : ((A.map fun x => n - x).reverse).length = A.length := by simp
    have hw : wrap64 ((wrap64 ((((A.map fun x => n - x).reverse).length : Int) - 1)) - (i : Int)) = ((A.length - 1 - i : Nat) : Int) := by rw [hl]; unfold wrap64; omega
    have hget : rd ((A.map fun x => n - x).reverse) ((A.length - 1 - i : Nat) : Int) = n - A[i] := by
      rw [rd_nat _ _ (by rw [hl]; omega)]
      simp only [List.getElem_reverse, List.getElem_map, List.length_map]
      have e : A.length - 1 - (A.length - 1 - i) = i := by omega
      simp only [e]
    simp only [schismalaw35_EvennessSpectra.l0]
    rw [hw, if_pos (by omega), if_pos (by omega), if_pos (by omega), if_pos (by omega), if_pos (by omega), hget, rd_nat _ _ hlt, if_pos (by rw [show A[i] + (n - A[i]) = n by omega]; unfold wrap64; omega), wrap_succ hlt (by omega)]
    exact ih (i + 1) k (by omega) (by omega) (by omega)

theorem spectra_j0 {n : Int} {set : List Int} (hv : Valid n set) (d : Nat) (hd : d ≤ set.length) (K : Nat) (hK : 302 ≤ K) :
    schismalaw35_EvennessSpectra.j0 (K + 1) n (dedup (isort (szL n set (d : Int)))) (dedup (isort (szL n set ((set.length - d : Nat) : Int)))) (((dedup (isort (szL n set (d : Int)))).length : Int) != ((dedup (isort (szL n set ((set.length - d : Nat) : Int)))).length : Int)) = some true := by
  have h60 := hv.len60
  rw [spectra_rev hv d hd]
  have hA : (dedup (isort (szL n set (d : Int)))).length ≤ 60 := Nat.le_trans (dedup_length_le _) (by rw [isort_length, szL_length]; exact h60)
  generalize dedup (isort (szL n set (d : Int))) = A at hA
  have e : ((A.length : Int) != (((A.map fun x => n - x).reverse).length : Int)) = false := by
    rw [List.length_reverse, List.length_map]
    exact bne_self_eq_false _
  rw [e]
  have h := spectra_l0 hv.n1 hv.n2 A hA A.length 0 K (by omega) (by omega) (by omega)
  exact h
theorem spectra_class (K : Nat) (hK : 0 < K) (hK6 : K ≤ 60) (c : Int) (g0 : 0 ≤ c) (g1 : c ≤ 255) : ∃ d : Nat, Int.tmod (wrap64 c) (wrap64 ((K : Int) + 1)) = (d : Int) ∧ d ≤ K := by
  have e1 : wrap64 c = c := by unfold wrap64; omega
  have e2 : wrap64 ((K : Int) + 1) = ((K + 1 : Nat) : Int) := by unfold wrap64; omega
  rw [e1, e2]
  obtain ⟨t0, t1⟩ := tmod_range (m := K + 1) g0 (by omega)
  exact ⟨(Int.tmod c ((K + 1 : Nat) : Int)).toNat, by omega, by omega⟩

theorem spectra_pure (a b c : Int) (ha : (Lit.int .u8 a).wf = true) (_ : (Lit.int .u16 b).wf = true) (hc : (Lit.int .u8 c).wf = true) : ∃ k, schismalaw35_EvennessSpectra.f k a b c = some true := by
  obtain ⟨h0, h1⟩ := u8_range ha
  obtain ⟨g0, g1⟩ := u8_range hc
  obtain ⟨n, set, hm, hv, hn⟩ := described b h0 h1
  have h60 := hv.len60
  have hpos := hv.len_pos
  obtain ⟨K, hK⟩ : ∃ K : Nat, 302 ≤ K := ⟨302, Nat.le_refl _⟩
  refine ⟨K + 1, ?_⟩
  obtain ⟨d, hd, hdl⟩ := spectra_class set.length hpos h60 c g0 g1
  have hj := spectra_j0 hv d hdl K hK
  have e3 : wrap64 ((set.length : Int) - (d : Int)) = ((set.length - d : Nat) : Int) := by unfold wrap64; omega
  have e4 : ¬ wrap64 ((set.length : Int) + 1) = 0 := by unfold wrap64; omega
  have s1 := spectrum_ok hv (c := (d : Int)) (by omega) (by omega) (show 200 < K + 1 by omega)
  have s2 := spectrum_ok hv (c := ((set.length - d : Nat) : Int)) (by omega) (by omega) (show 200 < K + 1 by omega)
  have hk := known_ge (show 100 ≤ K + 1 by omega)
  have hmk := hm (K + 1) (by omega)
  unfold schismalaw35_EvennessSpectra.f
  rw [hk, Option.bind_some, if_pos rfl, hmk, Option.bind_some, if_neg e4, hd, e3, s1, Option.bind_some, s2, Option.bind_some, if_pos rfl, if_pos rfl]
  exact hj
end Go.Proofs.Ytdbleoijefihhaa.PEv
