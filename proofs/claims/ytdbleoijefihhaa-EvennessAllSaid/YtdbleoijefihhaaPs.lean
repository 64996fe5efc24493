/- Plain laws: the sizes of a class, in the program and in the model; the least, the greatest and the first place of a size. -/
import Derived.Test.YtdbleoijefihhaaPd
import Derived.Test.YtdbleoijefihhaaPEvx4
import Derived.Test.YtdbleoijefihhaaPEvx12
import Derived.Test.YtdbleoijefihhaaPEvx15
namespace Go.Proofs.Ytdbleoijefihhaa.PEv
open Go.RowKit Go.Proofs.YtdbleoijefihhaaW.PrintWords Go.Proofs.YtdbleoijefihhaaW.PrintLast Go.Proofs.YtdbleoijefihhaaW.PrintMore
set_option linter.unusedVariables false
set_option linter.unusedSimpArgs false

/-- One size of a class. -/
def sz1 (n : Int) (set : List Int) (c : Int) (i : Nat) : Int := wrap64 ((wrap64 ((rd set (Int.tmod (wrap64 ((i : Int) + c)) (set.length : Int))) + (wrap64 ((wrap64 (Int.tdiv (wrap64 ((i : Int) + c)) (set.length : Int))) * n)))) - (rd set (i : Int)))
def szL (n : Int) (set : List Int) (c : Int) : List Int := (List.range set.length).map (sz1 n set c)
theorem szL_length (n : Int) (set : List Int) (c : Int) : (szL n set c).length = set.length := by simp [szL]

theorem tmod_range {x : Int} {m : Nat} (h0 : 0 ≤ x) (hm : 0 < m) : 0 ≤ Int.tmod x (m : Int) ∧ Int.tmod x (m : Int) < (m : Int) := by
  rw [Int.tmod_eq_emod_of_nonneg h0]
  exact ⟨Int.emod_nonneg _ (by omega), Int.emod_lt_of_pos _ (by omega)⟩
theorem sizes_l0 {n : Int} {set : List Int} (h60 : set.length ≤ 60) (c : Int) (hc0 : 0 ≤ c) (hc : c ≤ 60) : ∀ (d i k : Nat) (out : List Int), i ≤ set.length → set.length - i = d → d < k → out = (List.range i).map (sz1 n set c) →
    evenness_sizes.l0 k n set c out set (set.length : Int) (i : Int) = some (szL n set c) := by
  intro d
  induction d with
  | zero =>
    intro i k out hi hd hk ho
    obtain ⟨k, rfl⟩ : ∃ j, k = j + 1 := ⟨k - 1, by omega⟩
    obtain rfl : i = set.length := by omega
    simp only [evenness_sizes.l0]
    rw [if_neg (by omega), ho]
    rfl
  | succ d ih =>
    intro i k out hi hd hk ho
    obtain ⟨k, rfl⟩ : ∃ j, k = j + 1 := ⟨k - 1, by omega⟩
    have hl : out.length = i := by rw [ho]; simp
    have hw : wrap64 ((i : Int) + c) = (i : Int) + c := by unfold wrap64; omega
    obtain ⟨t0, t1⟩ := tmod_range (x := (i : Int) + c) (m := set.length) (by omega) (by omega)
    simp only [evenness_sizes.l0]
    rw [if_pos (by omega), if_pos (by omega), if_pos (by omega), if_neg (by omega), if_pos (by rw [hw]; exact t0), if_pos (by rw [hw]; exact t1), if_pos (by omega), wrap_succ (show i < set.length by omega) (by omega)]
    refine ih (i + 1) k _ (by omega) (by omega) (by omega) ?_
    rw [List.range_succ, List.map_append, ho]
    rfl
theorem sizes_ok {n : Int} {set : List Int} (h60 : set.length ≤ 60) {c : Int} (hc0 : 0 ≤ c) (hc : c ≤ 60) {k : Nat} (hk : 60 < k) : evenness_sizes.f k n set c = some (szL n set c) :=
  sizes_l0 h60 c hc0 hc set.length 0 k [] (by omega) (by omega) (by omega) rfl
theorem lsizes_l0 {n : Int} {set : List Int} (h60 : set.length ≤ 60) (c : Int) (hc0 : 0 ≤ c) (hc : c ≤ 60) : ∀ (d i k : Nat) (out : List Int), i ≤ set.length → set.length - i = d → d < k → out = (List.range i).map (sz1 n set c) →
    schismalaw35_sizes.l0 k n set c out (set.length : Int) (set.length : Int) (i : Int) = some (szL n set c) := by
  intro d
  induction d with
  | zero =>
    intro i k out hi hd hk ho
    obtain ⟨k, rfl⟩ : ∃ j, k = j + 1 := ⟨k - 1, by omega⟩
    obtain rfl : i = set.length := by omega
    simp only [schismalaw35_sizes.l0]
    rw [if_neg (by omega), ho]
    rfl
  | succ d ih =>
    intro i k out hi hd hk ho
    obtain ⟨k, rfl⟩ : ∃ j, k = j + 1 := ⟨k - 1, by omega⟩
    have hl : out.length = i := by rw [ho]; simp
    have hw : wrap64 ((i : Int) + c) = (i : Int) + c := by unfold wrap64; omega
    obtain ⟨t0, t1⟩ := tmod_range (x := (i : Int) + c) (m := set.length) (by omega) (by omega)
    simp only [schismalaw35_sizes.l0]
    rw [if_pos (by omega), if_neg (by omega), if_pos (by rw [hw]; exact t0), if_pos (by rw [hw]; exact t1), if_pos (by omega), if_pos (by omega), if_pos (by omega), wrap_succ (show i < set.length by omega) (by omega)]
    refine ih (i + 1) k _ (by omega) (by omega) (by omega) ?_
    rw [List.range_succ, List.map_append, ho]
    rfl
theorem lsizes_ok {n : Int} {set : List Int} (h60 : set.length ≤ 60) {c : Int} (hc0 : 0 ≤ c) (hc : c ≤ 60) {k : Nat} (hk : 60 < k) : schismalaw35_sizes.f k n set c = some (szL n set c) :=
  lsizes_l0 h60 c hc0 hc set.length 0 k [] (by omega) (by omega) (by omega) rfl

theorem min_ok {l : List Int} (h : l ≠ []) : ∃ m, slices_Min_int_int.f l = some m := by cases l with | nil => exact absurd rfl h | cons x xs => exact ⟨_, rfl⟩
theorem max_ok {l : List Int} (h : l ≠ []) : ∃ m, slices_Max_int_int.f l = some m := by cases l with | nil => exact absurd rfl h | cons x xs => exact ⟨_, rfl⟩
theorem index_ok (l : List Int) (x : Int) (hl : l.length ≤ 60) {k : Nat} (hk : 60 < k) : ∃ r, slices_Index_int_int.f k l x = some r ∧ slices_Index_int_int.f 61 l x = some r := by
  obtain ⟨r, hr, _⟩ := index_l0 l x (by omega) l.length 0 61 (by omega) (by omega) (by omega)
  exact ⟨r, at_rounds (slices_Index_int_int.mono _ _) (k := 61) (by omega) hr, hr⟩

/-- What both say of evenness. -/
def evenS (n : Int) (set : List Int) : Nat → Int → Option (Bool × Int × Int × Int)
  | 0, _ => some (true, 0, 0, 0)
  | d + 1, c => (slices_Min_int_int.f (szL n set c)).bind fun a => (slices_Max_int_int.f (szL n set c)).bind fun b => if wrap64 (b - a) > 1 then (slices_Index_int_int.f 61 (szL n set c) a).bind fun i => (slices_Index_int_int.f 61 (szL n set c) b).bind fun j => some (false, c, i, j) else evenS n set d (c + 1)
theorem iseven_l0 {n : Int} {set : List Int} (h60 : set.length ≤ 60) (h1 : 0 < set.length) : ∀ (d : Nat) (c k : Nat), 1 ≤ c → c ≤ set.length → set.length - c = d → d + 70 < k →
    evenness_IsEven.l0 k n set (c : Int) = (evenS n set d (c : Int)).map (fun r => (r.1, r.2.1, r.2.2.1, r.2.2.2, (0 : Int))) := by
  intro d
  induction d with
  | zero =>
    intro c k hc1 hc hd hk
    obtain ⟨k, rfl⟩ : ∃ j, k = j + 1 := ⟨k - 1, by omega⟩
    simp only [evenness_IsEven.l0, evenS]
    rw [if_neg (by omega)]
    rfl
  | succ d ih =>
    intro c k hc1 hc hd hk
    obtain ⟨k, rfl⟩ : ∃ j, k = j + 1 := ⟨k - 1, by omega⟩
    simp only [evenness_IsEven.l0, evenS]
    rw [if_pos (by omega), sizes_ok h60 (by omega) (by omega) (by omega)]
    have hl := szL_length n set (c : Int)
    have hne : szL n set (c : Int) ≠ [] := fun h => by rw [h] at hl; simp at hl; omega
    obtain ⟨a, ha⟩ := min_ok hne
    obtain ⟨b, hb⟩ := max_ok hne
    obtain ⟨i, hi1, hi2⟩ := index_ok (szL n set (c : Int)) a (by omega) (show 60 < k by omega)
    obtain ⟨j, hj1, hj2⟩ := index_ok (szL n set (c : Int)) b (by omega) (show 60 < k by omega)
    rw [ha, hb]
    simp only [Option.bind_some]
    rw [ha, hb]
    simp only [Option.bind_some]
    by_cases e : wrap64 (b - a) > 1
    · rw [if_pos e, if_pos e, hi1, hj1, hi2, hj2]
      rfl
    · rw [if_neg e, if_neg e, wrap_succ (show c < set.length by omega) (by omega)]
      exact ih (c + 1) k (by omega) (by omega) (by omega) (by omega)
theorem even_l0 {n : Int} {set : List Int} (h60 : set.length ≤ 60) (h1 : 0 < set.length) : ∀ (d : Nat) (c k : Nat), 1 ≤ c → c ≤ set.length → set.length - c = d → d + 70 < k →
    schismalaw35_even.l0 k n set (c : Int) = evenS n set d (c : Int) := by
  intro d
  induction d with
  | zero =>
    intro c k hc1 hc hd hk
    obtain ⟨k, rfl⟩ : ∃ j, k = j + 1 := ⟨k - 1, by omega⟩
    simp only [schismalaw35_even.l0, evenS]
    rw [if_neg (by omega)]
  | succ d ih =>
    intro c k hc1 hc hd hk
    obtain ⟨k, rfl⟩ : ∃ j, k = j + 1 := ⟨k - 1, by omega⟩
    simp only [schismalaw35_even.l0, evenS]
    rw [if_pos (by omega), lsizes_ok h60 (by omega) (by omega) (by omega)]
    have hl := szL_length n set (c : Int)
    have hne : szL n set (c : Int) ≠ [] := fun h => by rw [h] at hl; simp at hl; omega
    obtain ⟨a, ha⟩ := min_ok hne
    obtain ⟨b, hb⟩ := max_ok hne
    obtain ⟨i, hi1, hi2⟩ := index_ok (szL n set (c : Int)) a (by omega) (show 60 < k by omega)
    obtain ⟨j, hj1, hj2⟩ := index_ok (szL n set (c : Int)) b (by omega) (show 60 < k by omega)
    rw [ha, hb]
    simp only [Option.bind_some]
    rw [ha, hb]
    simp only [Option.bind_some]
    by_cases e : wrap64 (b - a) > 1
    · rw [if_pos e, if_pos e, hi1, hj1, hi2, hj2]
    · rw [if_neg e, if_neg e, wrap_succ (show c < set.length by omega) (by omega)]
      exact ih (c + 1) k (by omega) (by omega) (by omega) (by omega)
theorem evenS_some {n : Int} {set : List Int} (h60 : set.length ≤ 60) (h1 : 0 < set.length) : ∀ (d : Nat) (c : Int), ∃ r, evenS n set d c = some r
  | 0, _ => ⟨_, rfl⟩
  | d + 1, c => by
    unfold evenS
    have hl := szL_length n set c
    have hne : szL n set c ≠ [] := fun h => by rw [h] at hl; simp at hl; omega
    obtain ⟨a, ha⟩ := min_ok hne
    obtain ⟨b, hb⟩ := max_ok hne
    obtain ⟨i, hi1, hi2⟩ := index_ok (szL n set c) a (by omega) (show 60 < 61 by omega)
    obtain ⟨j, hj1, hj2⟩ := index_ok (szL n set c) b (by omega) (show 60 < 61 by omega)
    rw [ha, hb]
    simp only [Option.bind_some]
    by_cases e : wrap64 (b - a) > 1
    · rw [if_pos e, hi2, hj2]; exact ⟨_, rfl⟩
    · rw [if_neg e]; exact evenS_some h60 h1 d (c + 1)
theorem iseven_ok {n : Int} {set : List Int} (hv : Valid n set) {k : Nat} (hk : 200 < k) : ∃ r : Bool × Int × Int × Int, evenS n set (set.length - 1) 1 = some r ∧ evenness_IsEven.f k n set = some (r.1, r.2.1, r.2.2.1, r.2.2.2, 0) ∧ schismalaw35_even.f k n set = some r := by
  have h60 := hv.len60
  have h1 := hv.len_pos
  obtain ⟨r, hr⟩ := evenS_some (n := n) h60 h1 (set.length - 1) 1
  refine ⟨r, hr, ?_, ?_⟩
  · unfold evenness_IsEven.f
    rw [check_ok hv (by omega)]
    simp only [Option.bind_some, if_true]
    have := iseven_l0 (n := n) h60 h1 (set.length - 1) 1 k (by omega) (by omega) (by omega) (by omega)
    rw [show ((1 : Nat) : Int) = 1 from rfl, hr] at this
    exact this
  · unfold schismalaw35_even.f
    have := even_l0 (n := n) h60 h1 (set.length - 1) 1 k (by omega) (by omega) (by omega) (by omega)
    rw [show ((1 : Nat) : Int) = 1 from rfl, hr] at this
    exact this
theorem steps_ok {n : Int} {set : List Int} (hv : Valid n set) {k : Nat} (hk : 200 < k) : evenness_Steps.f k n set = some (szL n set 1, 0) := by
  unfold evenness_Steps.f
  rw [check_ok hv (by omega)]
  simp only [Option.bind_some, if_true]
  rw [sizes_ok hv.len60 (by omega) (by omega) (by omega)]
  rfl
theorem spectrum_ok {n : Int} {set : List Int} (hv : Valid n set) {c : Int} (h0 : 0 ≤ c) (h1 : c ≤ (set.length : Int)) {k : Nat} (hk : 200 < k) : evenness_Spectrum.f k n set c = some (dedup (isort (szL n set c)), 0) := by
  have h60 := hv.len60
  unfold evenness_Spectrum.f
  rw [check_ok hv (by omega)]
  simp only [Option.bind_some, if_true]
  rw [if_neg (by omega), decide_eq_false (by omega)]
  obtain ⟨k, rfl⟩ : ∃ j, k = j + 1 := ⟨k - 1, by omega⟩
  simp only [evenness_Spectrum.j0, Bool.false_eq_true, if_false]
  rw [sizes_ok h60 h0 (by omega) (by omega)]
  simp only [Option.bind_some, slices_Sort_int_int.f, slices_Compact_int_int.f]
  rw [if_pos (by rw [szL_length]; omega)]
  rfl
theorem spectrum_bad {n : Int} {set : List Int} (hv : Valid n set) {c : Int} (h : c < 0 ∨ (set.length : Int) < c) {k : Nat} (hk : 200 < k) : evenness_Spectrum.f k n set c = some ([], 3) := by
  unfold evenness_Spectrum.f
  rw [check_ok hv (by omega)]
  simp only [Option.bind_some, if_true]
  obtain ⟨k, rfl⟩ : ∃ j, k = j + 1 := ⟨k - 1, by omega⟩
  by_cases e : c < 0
  · rw [if_pos e]; rfl
  · rw [if_neg e, decide_eq_true (by omega)]; rfl
end Go.Proofs.Ytdbleoijefihhaa.PEv
