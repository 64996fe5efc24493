/- Plain laws: moved sets by their members; sets of quotients moved, turned round and complemented; the number of rotations divides n. -/
import Derived.Test.YtdbleoijefihhaaPb
namespace Go.Proofs.Ytdbleoijefihhaa.PEv
open Go.RowKit Go.Proofs.YtdbleoijefihhaaW.PrintWords Go.Proofs.YtdbleoijefihhaaW.PrintLast Go.Proofs.YtdbleoijefihhaaW.PrintMore
set_option linter.unusedVariables false
set_option linter.unusedSimpArgs false

theorem movedBy_mod {n z : Int} (hn : 1 ≤ n) (h60 : n ≤ 60) : movedBy n z = z % n := by
  obtain ⟨h1, h2, h3, h4⟩ := tmod_facts (z := z) hn
  have e := Int.mul_tdiv_add_tmod z n
  symm
  unfold movedBy
  split
  · have hw : wrap64 (Int.tmod z n + n) = Int.tmod z n + n := by unfold wrap64; omega
    rw [hw]
    exact mod_of (q := z.tdiv n - 1) (by rw [Int.mul_sub, Int.mul_one]; omega) (by omega) (by omega)
  · exact mod_of (q := z.tdiv n) (by omega) (by omega) (by omega)
theorem moved_mod {n x by_ : Int} (hn : 1 ≤ n) (h60 : n ≤ 60) (h0 : 0 ≤ x) (h1 : x < n) : movedBy n (wrap64 (x + Int.tmod by_ n)) = (x + by_) % n := by
  obtain ⟨g1, g2, _, _⟩ := tmod_facts (z := by_) hn
  have e := Int.mul_tdiv_add_tmod by_ n
  have hw : wrap64 (x + Int.tmod by_ n) = x + Int.tmod by_ n := by unfold wrap64; omega
  rw [hw, movedBy_mod hn h60]
  exact (mod_congr (by omega) (by_.tdiv n) (by omega)).symm
theorem mod_inj {n x y b : Int} (hn : 0 < n) (h0 : 0 ≤ x) (h1 : x < n) (g0 : 0 ≤ y) (g1 : y < n) (h : (x + b) % n = (y + b) % n) : x = y := by
  obtain ⟨q, e, _, _⟩ := mod_parts (x + b) hn
  obtain ⟨q', e', _, _⟩ := mod_parts (y + b) hn
  have a : x % n = y % n := mod_congr hn (q - q') (by rw [Int.mul_sub]; omega)
  rw [Int.emod_eq_of_lt h0 h1, Int.emod_eq_of_lt g0 g1] at a
  exact a
theorem movL_strict {n : Int} {set : List Int} (hv : Valid n set) (by_ : Int) : (movL n set by_).Pairwise (· < ·) := by
  have hn1 := hv.n1
  have hn2 := hv.n2
  refine isort_strict (nodup_map (strict_nodup hv.lt) (fun x hx y hy e => ?_))
  have rx := hv.rng x hx
  have ry := hv.rng y hy
  rw [moved_mod hn1 hn2 rx.1 rx.2, moved_mod hn1 hn2 ry.1 ry.2] at e
  exact mod_inj (by omega) rx.1 rx.2 ry.1 ry.2 e
theorem mem_movL {n : Int} {set : List Int} (hv : Valid n set) (by_ z : Int) : z ∈ movL n set by_ ↔ 0 ≤ z ∧ z < n ∧ (z - by_) % n ∈ set := by
  have hn1 := hv.n1
  have hn2 := hv.n2
  unfold movL
  rw [mem_isort, List.mem_map]
  constructor
  · rintro ⟨y, hy, e⟩
    have ry := hv.rng y hy
    rw [moved_mod hn1 hn2 ry.1 ry.2] at e
    obtain ⟨q, e1, g0, g1⟩ := mod_parts (y + by_) (show 0 < n by omega)
    rw [e] at e1 g0 g1
    refine ⟨g0, g1, ?_⟩
    rw [mod_of (r := y) (q := -q) (by rw [Int.mul_neg]; omega) ry.1 ry.2]
    exact hy
  · rintro ⟨h0, h1, hm⟩
    refine ⟨_, hm, ?_⟩
    obtain ⟨q, e1, g0, g1⟩ := mod_parts (z - by_) (show 0 < n by omega)
    rw [moved_mod hn1 hn2 g0 g1]
    exact mod_of (q := -q) (by rw [Int.mul_neg]; omega) h0 h1
theorem movL_ext {n : Int} {set : List Int} (hv : Valid n set) {b c : Int} (h : ∀ z, 0 ≤ z → z < n → ((z - b) % n ∈ set ↔ (z - c) % n ∈ set)) : movL n set b = movL n set c := by
  refine strict_ext (movL_strict hv b) (movL_strict hv c) (fun z => ?_)
  rw [mem_movL hv, mem_movL hv]
  exact ⟨fun ⟨h0, h1, hm⟩ => ⟨h0, h1, (h z h0 h1).1 hm⟩, fun ⟨h0, h1, hm⟩ => ⟨h0, h1, (h z h0 h1).2 hm⟩⟩
theorem movL_mem {n : Int} {set : List Int} (hv : Valid n set) {b c : Int} (h : movL n set b = movL n set c) (z : Int) (h0 : 0 ≤ z) (h1 : z < n) : (z - b) % n ∈ set ↔ (z - c) % n ∈ set := by
  have e : z ∈ movL n set b ↔ z ∈ movL n set c := by rw [h]
  rw [mem_movL hv, mem_movL hv] at e
  exact ⟨fun hm => (e.1 ⟨h0, h1, hm⟩).2.2, fun hm => (e.2 ⟨h0, h1, hm⟩).2.2⟩

/-! ### sets of quotients -/
theorem makeL_E {n s : Int} {k : Nat} (hk : 0 < k) (hkn : (k : Int) ≤ n) (h60 : n ≤ 60) (h0 : 0 ≤ s) (h1 : s < (k : Int)) : makeL n k s = E n k s := by
  rw [E_list hk hkn]
  unfold makeL
  rw [Int.toNat_natCast]
  apply List.map_congr_left
  intro i hi
  have hi' := List.mem_range.1 hi
  have hz : i0 n s = 0 := by unfold i0; rw [Int.ediv_eq_zero_of_lt h0 (by omega)]; rfl
  rw [hz, Int.zero_add]
  unfold mk1 B
  have hp : 0 ≤ n * (i : Int) := Int.mul_nonneg (by omega) (by omega)
  have hp2 : n * (i : Int) ≤ 60 * 60 := Int.mul_le_mul h60 (by omega) (by omega) (by omega)
  have w1 : wrap64 (n * (i : Int)) = n * (i : Int) := by unfold wrap64; omega
  have w2 : wrap64 (n * (i : Int) + s) = n * (i : Int) + s := by unfold wrap64; omega
  rw [w1, w2, Int.tdiv_eq_ediv_of_nonneg (by omega)]
  have d0 : 0 ≤ (n * (i : Int) + s) / (k : Int) := Int.ediv_nonneg (by omega) (by omega)
  have d1 : (n * (i : Int) + s) / (k : Int) ≤ n * (i : Int) + s := Int.ediv_le_self _ (by omega)
  unfold wrap64
  omega
theorem movL_E {n s : Int} {k : Nat} (hk : 0 < k) (hkn : (k : Int) ≤ n) (h60 : n ≤ 60) (by_ : Int) : movL n (E n k s) by_ = E n k (s + (k : Int) * by_) := by
  have hv := E_valid (s := s) hk hkn h60
  refine strict_ext (movL_strict hv by_) (pick_strict _ _) (fun z => ?_)
  rw [mem_movL hv, mem_E (by omega), mem_E (by omega)]
  obtain ⟨q, e1, g0, g1⟩ := mod_parts (z - by_) (show 0 < n by omega)
  have e : bt n k s ((z - by_) % n) = bt n k (s + (k : Int) * by_) z := by
    unfold bt
    have : (s - (k : Int) * ((z - by_) % n)) % n = (s + (k : Int) * by_ - (k : Int) * z) % n := by
      refine mod_congr (by omega) ((k : Int) * q) ?_
      have a1 : (k : Int) * (z - by_) = (k : Int) * ((z - by_) % n) + (k : Int) * (n * q) := by rw [← Int.mul_add, ← e1]
      have a2 : (k : Int) * (z - by_) = (k : Int) * z - (k : Int) * by_ := Int.mul_sub _ _ _
      have a3 : (k : Int) * (n * q) = n * ((k : Int) * q) := Int.mul_left_comm _ _ _
      omega
    rw [this]
  rw [e]
  exact ⟨fun ⟨a, b, _, _, c⟩ => ⟨a, b, c⟩, fun ⟨a, b, c⟩ => ⟨a, b, g0, g1, c⟩⟩
theorem inverse_E {n s : Int} {k : Nat} (hk : 0 < k) (hkn : (k : Int) ≤ n) (h60 : n ≤ 60) : isort ((E n k s).map fun x => movedBy n (wrap64 (-x))) = E n k ((k : Int) - 1 - s) := by
  have hv := E_valid (s := s) hk hkn h60
  have hn1 := hv.n1
  have hm : ∀ x, 0 ≤ x → x < n → movedBy n (wrap64 (-x)) = (-x) % n := fun x h0 h1 => by
    rw [show wrap64 (-x) = -x by unfold wrap64; omega, movedBy_mod hn1 h60]
  refine strict_ext (isort_strict (nodup_map (strict_nodup hv.lt) (fun x hx y hy e => ?_))) (pick_strict _ _) (fun z => ?_)
  · have rx := hv.rng x hx
    have ry := hv.rng y hy
    rw [neg_moved hn1 h60 rx.1 rx.2, neg_moved hn1 h60 ry.1 ry.2] at e
    split at e <;> split at e <;> omega
  · rw [mem_isort, List.mem_map, mem_E (by omega)]
    have key : ∀ x, bt n k s ((-x) % n) = bt n k ((k : Int) - 1 - s) x := by
      intro x
      unfold bt
      obtain ⟨q, e1, g0, g1⟩ := mod_parts (-x) (show 0 < n by omega)
      have a1 : (k : Int) * (-x) = (k : Int) * ((-x) % n) + (k : Int) * (n * q) := by rw [← Int.mul_add, ← e1]
      have a2 : (k : Int) * (-x) = -((k : Int) * x) := Int.mul_neg _ _
      have a3 : (k : Int) * (n * q) = n * ((k : Int) * q) := Int.mul_left_comm _ _ _
      have c1 : (s - (k : Int) * ((-x) % n)) % n = (s + (k : Int) * x) % n := mod_congr (by omega) ((k : Int) * q) (by omega)
      rw [c1]
      obtain ⟨p, f1, u0, u1⟩ := mod_parts (s + (k : Int) * x) (show 0 < n by omega)
      by_cases c : (s + (k : Int) * x) % n < (k : Int)
      · have : ((k : Int) - 1 - s - (k : Int) * x) % n = (k : Int) - 1 - (s + (k : Int) * x) % n := mod_of (q := -p) (by rw [Int.mul_neg]; omega) (by omega) (by omega)
        rw [this, decide_eq_true c, decide_eq_true (by omega)]
      · have : ((k : Int) - 1 - s - (k : Int) * x) % n = n + (k : Int) - 1 - (s + (k : Int) * x) % n := mod_of (q := -p - 1) (by rw [Int.mul_sub, Int.mul_neg, Int.mul_one]; omega) (by omega) (by omega)
        rw [this, decide_eq_false c, decide_eq_false (by omega)]
    constructor
    · rintro ⟨y, hy, e⟩
      have ry := hv.rng y hy
      rw [hm y ry.1 ry.2] at e
      have hb := ((mem_E (by omega) y).1 hy).2.2
      obtain ⟨q, e1, g0, g1⟩ := mod_parts (-y) (show 0 < n by omega)
      rw [e] at e1 g0 g1
      refine ⟨g0, g1, ?_⟩
      rw [← key, mod_of (r := y) (q := q) (by omega) ry.1 ry.2]
      exact hb
    · rintro ⟨h0, h1, hb⟩
      obtain ⟨q, e1, g0, g1⟩ := mod_parts (-z) (show 0 < n by omega)
      refine ⟨(-z) % n, (mem_E (by omega) _).2 ⟨g0, g1, by rw [key]; exact hb⟩, ?_⟩
      rw [hm _ g0 g1]
      exact mod_of (q := q) (by omega) h0 h1
theorem comp_E {n s : Int} {k : Nat} (hk : 0 < k) (hkn : (k : Int) ≤ n) (h60 : n ≤ 60) : pick (restOf (E n k s)) n.toNat = E n (n - (k : Int)) (-s - 1) := by
  refine strict_ext (pick_strict _ _) (pick_strict _ _) (fun z => ?_)
  have hn0 : 0 < n := by omega
  rw [mem_pick, mem_E (by omega), Int.toNat_of_nonneg (by omega)]
  have key : 0 ≤ z → z < n → restOf (E n k s) z = bt n (n - (k : Int)) (-s - 1) z := by
    intro h0 h1
    have hmem : z ∈ E n k s ↔ (s - (k : Int) * z) % n < (k : Int) := by
      rw [mem_E (by omega)]
      unfold bt
      rw [decide_eq_true_eq]
      exact ⟨fun h => h.2.2, fun h => ⟨h0, h1, h⟩⟩
    obtain ⟨p, f1, u0, u1⟩ := mod_parts (s - (k : Int) * z) hn0
    have e : (-s - 1 - (n - (k : Int)) * z) % n = n - 1 - (s - (k : Int) * z) % n := by
      refine mod_of (q := -p - 1 - z) ?_ (by omega) (by omega)
      have a1 : (n - (k : Int)) * z = n * z - (k : Int) * z := Int.sub_mul _ _ _
      have a2 : n * (-p - 1 - z) = -(n * p) - n - n * z := by rw [Int.mul_sub, Int.mul_sub, Int.mul_neg, Int.mul_one]
      omega
    unfold restOf bt
    rw [e]
    by_cases c : (s - (k : Int) * z) % n < (k : Int)
    · rw [decide_eq_true (hmem.2 c), decide_eq_false (by omega)]; rfl
    · rw [decide_eq_false (fun h => c (hmem.1 h)), decide_eq_true (by omega)]; rfl
  exact ⟨fun ⟨a, b, c⟩ => ⟨a, b, by rw [← key a b]; exact c⟩, fun ⟨a, b, c⟩ => ⟨a, b, by rw [key a b]; exact c⟩⟩

/-! ### the number of rotations -/
theorem lstrict_ext : ∀ {l m : List (List Int)}, l.Pairwise (fun a b => lexcmp a b < 0) → m.Pairwise (fun a b => lexcmp a b < 0) → (∀ x, x ∈ l ↔ x ∈ m) → l = m
  | [], [], _, _, _ => rfl
  | [], y :: m, _, _, h => absurd ((h y).2 (by simp)) (by simp)
  | x :: l, [], _, _, h => absurd ((h x).1 (by simp)) (by simp)
  | x :: l, y :: m, h1, h2, h => by
    rw [List.pairwise_cons] at h1 h2
    have hxy : x = y := by
      have a := (h x).1 (by simp)
      have b := (h y).2 (by simp)
      rcases List.mem_cons.1 a with e | a
      · exact e
      rcases List.mem_cons.1 b with e | b
      · exact e.symm
      have c1 := h1.1 y b
      have c2 := h2.1 x a
      have c3 := lexcmp_neg x y
      omega
    subst hxy
    rw [lstrict_ext h1.2 h2.2 (fun z => ⟨fun hz => ?_, fun hz => ?_⟩)]
    · have := (h z).1 (List.mem_cons_of_mem _ hz)
      rcases List.mem_cons.1 this with e | this
      · have := h1.1 z hz; rw [e, lexcmp_self] at this; omega
      · exact this
    · have := (h z).2 (List.mem_cons_of_mem _ hz)
      rcases List.mem_cons.1 this with e | this
      · have := h2.1 z hz; rw [e, lexcmp_self] at this; omega
      · exact this
theorem ldedup_strict : ∀ (l : List (List Int)), l.Pairwise (fun a b => lexcmp a b ≤ 0) → (dedup l).Pairwise (fun a b => lexcmp a b < 0)
  | [], _ => by simp [dedup]
  | [_], _ => by simp [dedup]
  | y :: z :: l, h => by
    rw [List.pairwise_cons] at h
    have ih := ldedup_strict (z :: l) h.2
    unfold dedup
    split
    · exact ih
    · rename_i e
      refine List.pairwise_cons.2 ⟨fun x hx => ?_, ih⟩
      have hx' := (mem_dedup (z :: l) x).1 hx
      have h1 := h.1 z (by simp)
      have h1' : lexcmp y z < 0 := by
        by_cases c : lexcmp y z = 0
        · exact absurd (lexcmp_zero _ _ c) e
        · omega
      have hz : lexcmp z x ≤ 0 := by
        rcases List.mem_cons.1 hx' with e2 | hx'
        · rw [e2, lexcmp_self]; omega
        · exact (List.pairwise_cons.1 h.2).1 x hx'
      have hyx := lexcmp_trans y z x (by omega) hz
      by_cases c : lexcmp y x = 0
      · have e3 := lexcmp_zero _ _ c
        rw [← e3] at hz
        have := lexcmp_neg y z
        omega
      · omega
theorem lsort_strict {l : List (List Int)} (h : l.Nodup) : (lsort l).Pairwise (fun a b => lexcmp a b < 0) := by
  have h1 := lsort_sorted l
  have h2 : (lsort l).Pairwise (· ≠ ·) := (lsort_perm l).nodup_iff.2 h
  refine (h1.and h2).imp (fun {a b} h => ?_)
  obtain ⟨h1, h2⟩ := h
  by_cases c : lexcmp a b = 0
  · exact absurd (lexcmp_zero _ _ c) h2
  · omega
theorem mem_lsort (l : List (List Int)) (x : List Int) : x ∈ lsort l ↔ x ∈ l := (lsort_perm l).mem_iff
theorem least {P : Nat → Prop} : ∀ m, P m → ∃ p, p ≤ m ∧ P p ∧ ∀ q, q < p → ¬ P q := by
  intro m
  induction m using Nat.strongRecOn with
  | _ m ih =>
    intro hm
    by_cases h : ∃ q, q < m ∧ P q
    · obtain ⟨q, hq, hP⟩ := h
      obtain ⟨p, h1, h2, h3⟩ := ih q hq hP
      exact ⟨p, by omega, h2, h3⟩
    · exact ⟨m, Nat.le_refl _, hm, fun q hq hP => h ⟨q, hq, hP⟩⟩

theorem rots_eq {n : Int} {set : List Int} (hn : 1 ≤ n) : rots n set = (List.range n.toNat).map (fun (b : Nat) => movL n set (b : Int)) := by
  unfold rots
  apply List.map_congr_left
  intro b hb
  have := List.mem_range.1 hb
  rw [movL_small set hn (by omega)]
theorem movL_shift {n : Int} {set : List Int} (hv : Valid n set) {b c : Int} (d : Int) (h : movL n set b = movL n set c) : movL n set (b + d) = movL n set (c + d) := by
  have hn1 := hv.n1
  refine movL_ext hv (fun z h0 h1 => ?_)
  obtain ⟨q, e1, g0, g1⟩ := mod_parts (z - d) (show 0 < n by omega)
  have := movL_mem hv h ((z - d) % n) g0 g1
  have c1 : ∀ t : Int, ((z - d) % n - t) % n = (z - (t + d)) % n := fun t => mod_congr (by omega) (-q) (by rw [Int.mul_neg]; omega)
  rw [c1, c1] at this
  exact this
theorem movL_period {n : Int} {set : List Int} (hv : Valid n set) (b : Int) : movL n set (b + n) = movL n set b := by
  have hn1 := hv.n1
  refine movL_ext hv (fun z h0 h1 => ?_)
  have : (z - (b + n)) % n = (z - b) % n := mod_congr (by omega) (-1) (by rw [Int.mul_neg, Int.mul_one]; omega)
  rw [this]
theorem rotations_count {n : Int} {set : List Int} (hv : Valid n set) : 0 < (dedup (lsort (rots n set))).length ∧ (dedup (lsort (rots n set))).length ≤ 60 ∧ n % ((dedup (lsort (rots n set))).length : Int) = 0 := by
  have hn1 := hv.n1
  have hn2 := hv.n2
  obtain ⟨m, hm⟩ : ∃ m : Nat, n = (m : Int) := ⟨n.toNat, by omega⟩
  obtain ⟨p, hpm, ⟨hp1, hpR⟩, hpl⟩ := least (P := fun p => 1 ≤ p ∧ movL n set (p : Int) = movL n set 0) m ⟨by omega, by
    have := movL_period hv 0
    rw [Int.zero_add, hm] at this
    rw [hm]; exact this⟩
  have hmul : ∀ t : Nat, movL n set ((p * t : Nat) : Int) = movL n set 0 := by
    intro t
    induction t with
    | zero => rfl
    | succ t ih =>
      have := movL_shift hv ((p * t : Nat) : Int) hpR
      rw [Int.zero_add, ih] at this
      rw [← this]
      congr 1
      rw [Nat.mul_succ]
      omega
  have hmod : ∀ b : Nat, movL n set (b : Int) = movL n set ((b % p : Nat) : Int) := by
    intro b
    have h1 := movL_shift hv ((b % p : Nat) : Int) (hmul (b / p))
    rw [Int.zero_add] at h1
    rw [← h1]
    congr 1
    have := Nat.div_add_mod b p
    omega
  have hdiv : m % p = 0 := by
    have h1 := hmod m
    have h2 := movL_period hv 0
    rw [Int.zero_add, hm] at h2
    rw [hm] at h1
    by_cases c : m % p = 0
    · exact c
    · exact absurd ⟨by omega, by rw [hm]; exact h1.symm.trans h2⟩ (hpl (m % p) (Nat.mod_lt _ (by omega)))
  have hne : ∀ b c : Nat, b < c → c < p → movL n set (b : Int) ≠ movL n set (c : Int) := by
    intro b c hbc hcp h
    have h1 := movL_shift hv (-(b : Int)) h
    rw [show (b : Int) + -(b : Int) = 0 by omega, show (c : Int) + -(b : Int) = ((c - b : Nat) : Int) by omega] at h1
    exact absurd ⟨by omega, h1.symm⟩ (hpl (c - b) (by omega))
  have hnd : ((List.range p).map (fun (b : Nat) => movL n set (b : Int))).Nodup := by
    unfold List.Nodup
    rw [List.pairwise_map]
    refine (List.Pairwise.and_mem.1 List.pairwise_lt_range).imp (fun {a b} h => ?_)
    exact hne a b h.2.2 (List.mem_range.1 h.2.1)
  have heq : dedup (lsort (rots n set)) = lsort ((List.range p).map (fun (b : Nat) => movL n set (b : Int))) := by
    refine lstrict_ext (ldedup_strict _ (lsort_sorted _)) (lsort_strict hnd) (fun x => ?_)
    rw [mem_dedup, mem_lsort, mem_lsort, rots_eq hn1, List.mem_map, List.mem_map]
    constructor
    · rintro ⟨b, hb, rfl⟩
      exact ⟨b % p, List.mem_range.2 (Nat.mod_lt _ (by omega)), (hmod b).symm⟩
    · rintro ⟨b, hb, rfl⟩
      have := List.mem_range.1 hb
      exact ⟨b, List.mem_range.2 (by omega), rfl⟩
  rw [heq, lsort_length, List.length_map, List.length_range]
  refine ⟨by omega, by omega, ?_⟩
  rw [hm]
  exact_mod_cast hdiv
end Go.Proofs.Ytdbleoijefihhaa.PEv
