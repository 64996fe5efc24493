/- Plain laws: the moved sets, all rotations, the other notes and the inverse, in the program and in the model. -/
import Derived.Test.YtdbleoijefihhaaPm
import Derived.Test.YtdbleoijefihhaaPEvx4
import Derived.Test.YtdbleoijefihhaaPEvx18
namespace Go.Proofs.Ytdbleoijefihhaa.PEv
open Go.RowKit Go.Proofs.YtdbleoijefihhaaW.PrintWords Go.Proofs.YtdbleoijefihhaaW.PrintLast Go.Proofs.YtdbleoijefihhaaW.PrintMore
set_option linter.unusedVariables false
set_option linter.unusedSimpArgs false

theorem tmod_facts {z n : Int} (hn : 1 ≤ n) : -n < Int.tmod z n ∧ Int.tmod z n < n ∧ (0 ≤ z → 0 ≤ Int.tmod z n) ∧ (z ≤ 0 → Int.tmod z n ≤ 0) := by
  rcases Int.le_total 0 z with h | h
  · have e := Int.tmod_eq_emod_of_nonneg (b := n) h
    have h1 := Int.emod_nonneg z (show n ≠ 0 by omega)
    have h2 := Int.emod_lt_of_pos z (show 0 < n by omega)
    rw [e]
    refine ⟨by omega, by omega, fun _ => h1, fun hz => ?_⟩
    obtain rfl : z = 0 := by omega
    simp
  · have e : Int.tmod z n = - Int.tmod (-z) n := by rw [Int.neg_tmod, Int.neg_neg]
    have e2 := Int.tmod_eq_emod_of_nonneg (b := n) (show 0 ≤ -z by omega)
    have h1 := Int.emod_nonneg (-z) (show n ≠ 0 by omega)
    have h2 := Int.emod_lt_of_pos (-z) (show 0 < n by omega)
    rw [e, e2]
    refine ⟨by omega, by omega, fun hz => ?_, fun _ => by omega⟩
    obtain rfl : z = 0 := by omega
    simp
theorem movedBy_facts {z n : Int} (hn : 1 ≤ n) (h60 : n ≤ 60) : 0 ≤ movedBy n z ∧ movedBy n z < n := by
  obtain ⟨h1, h2, h3, h4⟩ := tmod_facts (z := z) hn
  unfold movedBy
  split
  · unfold wrap64; omega
  · omega
theorem move_eq {z n : Int} (hn : 1 ≤ n) (h60 : n ≤ 60) : Int.tmod (wrap64 ((Int.tmod z n) + n)) n = movedBy n z := by
  obtain ⟨h1, h2, h3, h4⟩ := tmod_facts (z := z) hn
  have hw : wrap64 (Int.tmod z n + n) = Int.tmod z n + n := by unfold wrap64; omega
  rw [hw, Int.tmod_eq_emod_of_nonneg (by omega), Int.add_emod_right]
  unfold movedBy
  split
  · rename_i hneg
    rw [hw, ← Int.add_emod_right, Int.emod_eq_of_lt (by omega) (by omega)]
  · rename_i hneg
    rw [Int.emod_eq_of_lt (by omega) h2]

/-- A set moved. -/
def movL (n : Int) (set : List Int) (by_ : Int) : List Int := isort (set.map fun x => movedBy n (wrap64 (x + Int.tmod by_ n)))
theorem move_l0 {n : Int} {set : List Int} (hv : Valid n set) (by_ : Int) : ∀ (d i k : Nat) (out : List Int), i ≤ set.length → set.length - i = d → d < k → out = (set.take i).map (fun x => movedBy n (wrap64 (x + Int.tmod by_ n))) →
    schismalaw35_move.l0 k n by_ out set (set.length : Int) (i : Int) = some (movL n set by_) := by
  have h60 := hv.len60
  have hn1 := hv.n1
  have hn2 := hv.n2
  intro d
  induction d with
  | zero =>
    intro i k out hi hd hk ho
    obtain ⟨k, rfl⟩ : ∃ j, k = j + 1 := ⟨k - 1, by omega⟩
    simp only [schismalaw35_move.l0, slices_Sort_int_int.f]
    rw [List.take_of_length_le (by omega)] at ho
    rw [if_neg (by omega), if_pos (by rw [ho]; simp; omega), ho]
    rfl
  | succ d ih =>
    intro i k out hi hd hk ho
    obtain ⟨k, rfl⟩ : ∃ j, k = j + 1 := ⟨k - 1, by omega⟩
    have hlt : i < set.length := by omega
    have hl : out.length = i := by rw [ho]; simp; omega
    simp only [schismalaw35_move.l0]
    rw [if_pos (by omega), if_pos (by omega), if_pos (by omega), if_neg (by omega), if_pos (by omega), rd_nat _ _ hlt, move_eq hn1 hn2, wrap_succ hlt (by omega)]
    refine ih (i + 1) k _ (by omega) (by omega) (by omega) ?_
    rw [List.take_succ_eq_append_getElem hlt, List.map_append, ho]
    rfl
theorem move_ok {n : Int} {set : List Int} (hv : Valid n set) (by_ : Int) {k : Nat} (hk : 60 < k) : schismalaw35_move.f k n set by_ = some (movL n set by_) := by
  have h60 := hv.len60
  exact move_l0 hv by_ set.length 0 k [] (by omega) (by omega) (by omega) rfl
theorem transpose_ok {n : Int} {set : List Int} (hv : Valid n set) (by_ : Int) {k : Nat} (hk : 200 < k) : evenness_Transpose.f k n set by_ = some (movL n set by_, 0) := by
  have h60 := hv.len60
  unfold evenness_Transpose.f
  rw [check_ok hv (by omega)]
  simp only [Option.bind_some, if_true]
  rw [if_pos hv.n1, if_pos hv.n2, if_pos (by omega)]
  rfl
theorem movL_small {n : Int} (set : List Int) {i : Nat} (hn : 1 ≤ n) (hi : (i : Int) < n) : movL n set (i : Int) = isort (set.map fun x => movedBy n (wrap64 (x + (i : Int)))) := by
  unfold movL
  rw [Int.tmod_eq_emod_of_nonneg (by omega), Int.emod_eq_of_lt (by omega) hi]
theorem rotations_l0 {n : Int} {set : List Int} (hv : Valid n set) (m : Nat) (hm : n = (m : Int)) : ∀ (d i k : Nat) (out : List (List Int)), i ≤ m → m - i = d → d + 70 < k → out = (List.range i).map (fun (j : Nat) => isort (set.map fun x => movedBy n (wrap64 (x + (j : Int))))) →
    schismalaw35_rotations.l0 k n set out n (i : Int) = some (dedup (lsort (rots n set))) := by
  have hn1 := hv.n1
  have hn2 := hv.n2
  intro d
  induction d with
  | zero =>
    intro i k out hi hd hk ho
    obtain ⟨k, rfl⟩ : ∃ j, k = j + 1 := ⟨k - 1, by omega⟩
    have hl : out.length = i := by rw [ho]; simp
    simp only [schismalaw35_rotations.l0, schismalaw35_distinct.f]
    rw [if_neg (by omega), if_pos (by omega), ho]
    have e : n.toNat = i := by omega
    unfold rots
    rw [e]
    rfl
  | succ d ih =>
    intro i k out hi hd hk ho
    obtain ⟨k, rfl⟩ : ∃ j, k = j + 1 := ⟨k - 1, by omega⟩
    have hl : out.length = i := by rw [ho]; simp
    simp only [schismalaw35_rotations.l0]
    rw [if_pos (by omega), move_ok hv _ (by omega), movL_small set hn1 (by omega)]
    simp only [Option.bind_some]
    rw [if_pos (by omega), wrap_succ (show i < m by omega) (by omega)]
    refine ih (i + 1) k _ (by omega) (by omega) (by omega) ?_
    rw [List.range_succ, List.map_append, ho]
    rfl
theorem lrotations_ok {n : Int} {set : List Int} (hv : Valid n set) {k : Nat} (hk : 200 < k) : schismalaw35_rotations.f k n set = some (dedup (lsort (rots n set))) := by
  have hn1 := hv.n1
  have hn2 := hv.n2
  exact rotations_l0 hv n.toNat (by omega) n.toNat 0 k [] (by omega) (by omega) (by omega) rfl
theorem rotations_ok {n : Int} {set : List Int} (hv : Valid n set) {k : Nat} (hk : 200 < k) : evenness_Rotations.f k n set = some (dedup (lsort (rots n set)), 0) := by
  have h60 := hv.len60
  unfold evenness_Rotations.f
  rw [check_ok hv (by omega)]
  simp only [Option.bind_some, if_true]
  rw [if_pos hv.n1, if_pos hv.n2, if_pos (by omega)]
theorem inverse_ok {n : Int} {set : List Int} (hv : Valid n set) {k : Nat} (hk : 200 < k) : evenness_Inverse.f k n set = some (isort (set.map fun x => movedBy n (wrap64 (-x))), 0) := by
  have h60 := hv.len60
  unfold evenness_Inverse.f
  rw [check_ok hv (by omega)]
  simp only [Option.bind_some, if_true]
  rw [if_pos hv.n1, if_pos hv.n2, if_pos (by omega)]

/-- The notes below i that a test lets by. -/
def pick (p : Int → Bool) (i : Nat) : List Int := ((List.range i).map fun (j : Nat) => (j : Int)).filter p
theorem pick_succ (p : Int → Bool) (i : Nat) : pick p (i + 1) = pick p i ++ (if p (i : Int) then [(i : Int)] else []) := by
  unfold pick
  rw [List.range_succ, List.map_append, List.filter_append]
  congr 1
  by_cases h : p (i : Int) <;> simp [h]
theorem mem_pick (p : Int → Bool) (i : Nat) (x : Int) : x ∈ pick p i ↔ 0 ≤ x ∧ x < (i : Int) ∧ p x = true := by
  unfold pick
  rw [List.mem_filter, List.mem_map]
  constructor
  · rintro ⟨⟨j, hj, rfl⟩, hp⟩
    have := List.mem_range.1 hj
    exact ⟨by omega, by omega, hp⟩
  · rintro ⟨h0, h1, hp⟩
    exact ⟨⟨x.toNat, List.mem_range.2 (by omega), by omega⟩, hp⟩
theorem pick_strict (p : Int → Bool) (i : Nat) : (pick p i).Pairwise (· < ·) := by
  unfold pick
  refine List.Pairwise.filter _ ?_
  rw [List.pairwise_map]
  exact List.pairwise_lt_range.imp (fun {a b} h => by omega)
theorem pick_length (p : Int → Bool) (i : Nat) : (pick p i).length ≤ i := by
  unfold pick
  exact Nat.le_trans (List.length_filter_le _ _) (by simp)

def restOf (set : List Int) (x : Int) : Bool := !decide (x ∈ set)
theorem complement_l0 {n : Int} {set : List Int} (hv : Valid n set) (m : Nat) (hm : n = (m : Int)) : ∀ (d i k : Nat), i ≤ m → m - i = d → d + 70 < k →
    evenness_Complement.l0 k set (pick (restOf set) i) n (i : Int) = some (if pick (restOf set) m = [] then ([], 13) else (pick (restOf set) m, 0)) := by
  have h60 := hv.len60
  have hn2 := hv.n2
  intro d
  induction d with
  | zero =>
    intro i k hi hd hk
    obtain ⟨k, rfl⟩ : ∃ j, k = j + 1 := ⟨k - 1, by omega⟩
    obtain rfl : i = m := by omega
    simp only [evenness_Complement.l0]
    rw [if_neg (by omega)]
    by_cases e : pick (restOf set) i = []
    · rw [if_pos (by rw [e]; rfl), if_pos e]
    · rw [if_neg (fun h => e (List.length_eq_zero_iff.1 (by omega))), if_neg e]
  | succ d ih =>
    intro i k hi hd hk
    obtain ⟨k, rfl⟩ : ∃ j, k = j + 1 := ⟨k - 1, by omega⟩
    have hl := pick_length (restOf set) i
    simp only [evenness_Complement.l0]
    rw [if_pos (by omega), contains_f _ _ (by omega) (by omega)]
    simp only [Option.bind_some]
    have ih' := ih (i + 1) k (by omega) (by omega) (by omega)
    rw [← wrap_succ (show i < m by omega) (show m ≤ 9223372036854775807 by omega), pick_succ] at ih'
    by_cases e : (i : Int) ∈ set
    · rw [decide_eq_true e, if_pos rfl]
      rw [show restOf set (i : Int) = false by unfold restOf; rw [decide_eq_true e]; rfl, if_neg (by decide), List.append_nil] at ih'
      exact ih'
    · rw [decide_eq_false e, if_neg (by decide), if_pos (by omega)]
      rw [show restOf set (i : Int) = true by unfold restOf; rw [decide_eq_false e]; rfl, if_pos rfl] at ih'
      exact ih'
theorem complement_ok {n : Int} {set : List Int} (hv : Valid n set) {k : Nat} (hk : 200 < k) : evenness_Complement.f k n set = some (if pick (restOf set) n.toNat = [] then ([], 13) else (pick (restOf set) n.toNat, 0)) := by
  have hn1 := hv.n1
  have hn2 := hv.n2
  unfold evenness_Complement.f
  rw [check_ok hv (by omega)]
  simp only [Option.bind_some, if_true]
  exact complement_l0 hv n.toNat (by omega) n.toNat 0 k (by omega) (by omega) (by omega)

theorem neg_moved {n x : Int} (hn : 1 ≤ n) (h60 : n ≤ 60) (h0 : 0 ≤ x) (h1 : x < n) : movedBy n (wrap64 (-x)) = if x = 0 then 0 else n - x := by
  have hw : wrap64 (-x) = -x := by unfold wrap64; omega
  have e : Int.tmod (-x) n = -x := by rw [Int.neg_tmod, Int.tmod_eq_emod_of_nonneg h0, Int.emod_eq_of_lt h0 h1]
  unfold movedBy
  rw [hw, e]
  by_cases h : x = 0
  · rw [if_neg (by omega), if_pos h, h]; rfl
  · rw [if_pos (by omega), if_neg h]; unfold wrap64; omega
def backOf (n : Int) (set : List Int) (x : Int) : Bool := decide (Int.tmod (wrap64 (n - x)) n ∈ set)
theorem back_plain {n x : Int} (hn : 1 ≤ n) (h60 : n ≤ 60) (h0 : 0 ≤ x) (h1 : x < n) : Int.tmod (wrap64 (n - x)) n = if x = 0 then 0 else n - x := by
  have hw : wrap64 (n - x) = n - x := by unfold wrap64; omega
  rw [hw, Int.tmod_eq_emod_of_nonneg (by omega)]
  by_cases h : x = 0
  · rw [if_pos h, h]; simp
  · rw [if_neg h, Int.emod_eq_of_lt (by omega) (by omega)]
theorem inverse_back {n : Int} {set : List Int} (hv : Valid n set) : isort (set.map fun x => movedBy n (wrap64 (-x))) = pick (backOf n set) n.toNat := by
  have hn1 := hv.n1
  have hn2 := hv.n2
  refine strict_ext (isort_strict (nodup_map (strict_nodup hv.lt) (fun x hx y hy e => ?_))) (pick_strict _ _) (fun z => ?_)
  · have rx := hv.rng x hx
    have ry := hv.rng y hy
    rw [neg_moved hn1 hn2 rx.1 rx.2, neg_moved hn1 hn2 ry.1 ry.2] at e
    split at e <;> split at e <;> omega
  · rw [mem_isort, List.mem_map, mem_pick]
    constructor
    · rintro ⟨x, hx, rfl⟩
      have rx := hv.rng x hx
      rw [neg_moved hn1 hn2 rx.1 rx.2]
      have hz : 0 ≤ (if x = 0 then 0 else n - x) ∧ (if x = 0 then 0 else n - x) < n := by split <;> omega
      refine ⟨hz.1, by omega, ?_⟩
      unfold backOf
      rw [back_plain hn1 hn2 hz.1 hz.2]
      refine decide_eq_true ?_
      have : (if (if x = 0 then 0 else n - x) = 0 then 0 else n - (if x = 0 then 0 else n - x)) = x := by
        by_cases h : x = 0
        · rw [if_pos h, if_pos rfl, h]
        · rw [if_neg h, if_neg (by omega)]; omega
      rw [this]
      exact hx
    · rintro ⟨h0, h1, hp⟩
      have h1' : z < n := by omega
      have hp := of_decide_eq_true hp
      rw [back_plain hn1 hn2 h0 h1'] at hp
      refine ⟨_, hp, ?_⟩
      have hz : 0 ≤ (if z = 0 then 0 else n - z) ∧ (if z = 0 then 0 else n - z) < n := by split <;> omega
      rw [neg_moved hn1 hn2 hz.1 hz.2]
      by_cases h : z = 0
      · rw [if_pos h, if_pos rfl, h]
      · rw [if_neg h, if_neg (by omega)]; omega
end Go.Proofs.Ytdbleoijefihhaa.PEv
