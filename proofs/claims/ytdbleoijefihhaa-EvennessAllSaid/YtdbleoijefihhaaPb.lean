/- Plain laws: the sets of quotients are maximally even, wherever they begin; moved, turned round and complemented they are such sets again. -/
import Derived.Test.YtdbleoijefihhaaPmo
import Derived.Test.YtdbleoijefihhaaPs
namespace Go.Proofs.Ytdbleoijefihhaa.PEv
open Go.RowKit Go.Proofs.YtdbleoijefihhaaW.PrintWords Go.Proofs.YtdbleoijefihhaaW.PrintLast Go.Proofs.YtdbleoijefihhaaW.PrintMore
set_option linter.unusedVariables false
set_option linter.unusedSimpArgs false

theorem mod_of {a n r q : Int} (h : a = r + n * q) (h0 : 0 ≤ r) (h1 : r < n) : a % n = r := by
  rw [h, Int.add_mul_emod_self_left, Int.emod_eq_of_lt h0 h1]
theorem mod_parts (a : Int) {n : Int} (hn : 0 < n) : ∃ q, a = a % n + n * q ∧ 0 ≤ a % n ∧ a % n < n :=
  ⟨a / n, by have := Int.emod_add_mul_ediv a n; omega, Int.emod_nonneg _ (by omega), Int.emod_lt_of_pos _ hn⟩
theorem mod_congr {a b n : Int} (hn : 0 < n) (q : Int) (h : a = b + n * q) : a % n = b % n := by
  rw [h, Int.add_mul_emod_self_left]
theorem fl_iff {k : Int} (hk : 0 < k) (y x : Int) : y / k = x ↔ k * x ≤ y ∧ y < k * x + k := by
  have h1 := Int.mul_ediv_self_le (x := y) (k := k) (by omega)
  have h2 := Int.lt_mul_ediv_self_add (x := y) hk
  constructor
  · rintro rfl; exact ⟨h1, h2⟩
  · rintro ⟨g1, g2⟩
    have a1 : ¬ y / k < x := fun h => by
      have : k * (y / k + 1) ≤ k * x := Int.mul_le_mul_of_nonneg_left (by omega) (by omega)
      rw [Int.mul_add] at this
      omega
    have a2 : ¬ x < y / k := fun h => by
      have : k * (x + 1) ≤ k * (y / k) := Int.mul_le_mul_of_nonneg_left (by omega) (by omega)
      rw [Int.mul_add] at this
      omega
    omega

/-- The quotients. -/
def B (n k s i : Int) : Int := (n * i + s) / k
theorem B_iff {n k s : Int} (hk : 0 < k) (i x : Int) : B n k s i = x ↔ k * x ≤ n * i + s ∧ n * i + s < k * x + k := fl_iff hk _ _
theorem B_self {n k s : Int} (hk : 0 < k) (i : Int) : k * B n k s i ≤ n * i + s ∧ n * i + s < k * B n k s i + k := (B_iff hk i _).1 rfl
theorem B_period {n k s : Int} (hk : 0 < k) (i : Int) : B n k s (i + k) = B n k s i + n := by
  rw [B_iff hk]
  have h := B_self (n := n) (s := s) hk i
  have e1 : n * (i + k) = n * i + n * k := Int.mul_add _ _ _
  have e2 : k * (B n k s i + n) = k * B n k s i + k * n := Int.mul_add _ _ _
  have e3 : k * n = n * k := Int.mul_comm _ _
  omega
theorem B_lt {n k s : Int} (hk : 0 < k) (hkn : k ≤ n) (i : Int) : B n k s i + 1 ≤ B n k s (i + 1) := by
  have h := B_self (n := n) (s := s) hk i
  have h2 := B_self (n := n) (s := s) hk (i + 1)
  have e1 : n * (i + 1) = n * i + n := by rw [Int.mul_add, Int.mul_one]
  by_cases c : B n k s i + 1 ≤ B n k s (i + 1)
  · exact c
  · have : k * B n k s (i + 1) ≤ k * B n k s i := Int.mul_le_mul_of_nonneg_left (by omega) (by omega)
    omega
theorem B_mono {n k s : Int} (hk : 0 < k) (hkn : k ≤ n) (i : Int) : ∀ d : Nat, B n k s i + (d : Int) ≤ B n k s (i + (d : Int))
  | 0 => by simp
  | d + 1 => by
    have h1 := B_mono hk hkn i d (s := s)
    have h2 := B_lt (s := s) hk hkn (i + (d : Int))
    have e : i + ((d + 1 : Nat) : Int) = i + (d : Int) + 1 := by omega
    rw [e]
    omega
/-- The sizes of a class lie at most 1 apart. -/
theorem B_size {n k s : Int} (hk : 0 < k) (i d : Int) : n * d / k ≤ B n k s (i + d) - B n k s i ∧ B n k s (i + d) - B n k s i ≤ n * d / k + 1 := by
  have h := B_self (n := n) (s := s) hk i
  have h2 := B_self (n := n) (s := s) hk (i + d)
  have q1 := Int.mul_ediv_self_le (x := n * d) (k := k) (by omega)
  have q2 := Int.lt_mul_ediv_self_add (x := n * d) hk
  have e1 : n * (i + d) = n * i + n * d := Int.mul_add _ _ _
  generalize hb : B n k s (i + d) = b at *
  generalize ha : B n k s i = a at *
  generalize hq : n * d / k = q at *
  constructor
  · by_cases c : q ≤ b - a
    · exact c
    · have : k * (b + 1) ≤ k * (q + a) := Int.mul_le_mul_of_nonneg_left (by omega) (by omega)
      rw [Int.mul_add, Int.mul_add] at this
      omega
  · by_cases c : b - a ≤ q + 1
    · exact c
    · have : k * (q + a + 2) ≤ k * b := Int.mul_le_mul_of_nonneg_left (by omega) (by omega)
      rw [Int.mul_add, Int.mul_add] at this
      omega

/-- Is x one of the quotients? -/
def bt (n k s x : Int) : Bool := decide ((s - k * x) % n < k)
theorem bt_iff {n k s : Int} (hk : 0 < k) (hkn : k ≤ n) (x : Int) : bt n k s x = true ↔ ∃ i, B n k s i = x := by
  unfold bt
  rw [decide_eq_true_eq]
  obtain ⟨q, h1, h2, h3⟩ := mod_parts (s - k * x) (show 0 < n by omega)
  constructor
  · intro h
    refine ⟨-q, (B_iff hk _ _).2 ?_⟩
    rw [Int.mul_neg]
    omega
  · rintro ⟨i, hi⟩
    have h := (B_iff hk i x).1 hi
    have : (s - k * x) % n = n * i + s - k * x := mod_of (q := -i) (by rw [Int.mul_neg]; omega) (by omega) (by omega)
    omega
def E (n k s : Int) : List Int := pick (bt n k s) n.toNat
theorem mem_E {n k s : Int} (hn : 0 ≤ n) (x : Int) : x ∈ E n k s ↔ 0 ≤ x ∧ x < n ∧ bt n k s x = true := by
  unfold E
  rw [mem_pick, Int.toNat_of_nonneg hn]

/-- The first place from which the quotients are not below 0. -/
def i0 (n s : Int) : Int := -(s / n)
theorem B_range {n k s : Int} (hk : 0 < k) (hkn : k ≤ n) (i : Int) : (0 ≤ B n k s i ∧ B n k s i < n) ↔ i0 n s ≤ i ∧ i < i0 n s + k := by
  have h := B_self (n := n) (s := s) hk i
  have q1 := Int.mul_ediv_self_le (x := s) (k := n) (by omega)
  have q2 := Int.lt_mul_ediv_self_add (x := s) (show 0 < n by omega)
  unfold i0
  generalize hq : s / n = q at *
  generalize hb : B n k s i = b at *
  have c1 : 0 ≤ b ↔ -q ≤ i := by
    constructor
    · intro h0
      by_cases c : -q ≤ i
      · exact c
      · have m1 : n * (i + q + 1) ≤ n * 0 := Int.mul_le_mul_of_nonneg_left (by omega) (by omega)
        have m2 : k * 0 ≤ k * b := Int.mul_le_mul_of_nonneg_left h0 (by omega)
        rw [Int.mul_add, Int.mul_add] at m1
        omega
    · intro h0
      by_cases c : 0 ≤ b
      · exact c
      · have m1 : n * 0 ≤ n * (i + q) := Int.mul_le_mul_of_nonneg_left (by omega) (by omega)
        have m2 : k * (b + 1) ≤ k * 0 := Int.mul_le_mul_of_nonneg_left (by omega) (by omega)
        rw [Int.mul_add] at m1 m2
        omega
  have ekn : k * n = n * k := Int.mul_comm _ _
  have c2 : b < n ↔ i < -q + k := by
    constructor
    · intro h0
      by_cases c : i < -q + k
      · exact c
      · have m1 : n * (k) ≤ n * (i + q) := Int.mul_le_mul_of_nonneg_left (by omega) (by omega)
        have m2 : k * (b + 1) ≤ k * n := Int.mul_le_mul_of_nonneg_left (by omega) (by omega)
        rw [Int.mul_add] at m1 m2
        omega
    · intro h0
      by_cases c : b < n
      · exact c
      · have m1 : n * (i + q + 1) ≤ n * k := Int.mul_le_mul_of_nonneg_left (by omega) (by omega)
        have m2 : k * n ≤ k * b := Int.mul_le_mul_of_nonneg_left (by omega) (by omega)
        rw [Int.mul_add, Int.mul_add] at m1
        omega
  rw [c1, c2]

theorem E_list {n s : Int} {k : Nat} (hk : 0 < k) (hkn : (k : Int) ≤ n) : E n k s = (List.range k).map fun (j : Nat) => B n k s (i0 n s + (j : Int)) := by
  have hk' : (0 : Int) < (k : Int) := by omega
  refine strict_ext (pick_strict _ _) ?_ (fun x => ?_)
  · rw [List.pairwise_map]
    refine List.pairwise_lt_range.imp (fun {a b} h => ?_)
    have hm := B_mono hk' hkn (s := s) (i0 n s + (a : Int)) (b - a)
    have e : i0 n s + (a : Int) + ((b - a : Nat) : Int) = i0 n s + (b : Int) := by omega
    rw [e] at hm
    omega
  · rw [mem_E (by omega), bt_iff hk' hkn, List.mem_map]
    constructor
    · rintro ⟨h0, h1, i, rfl⟩
      have hr := (B_range hk' hkn i).1 ⟨h0, h1⟩
      refine ⟨(i - i0 n s).toNat, List.mem_range.2 (by omega), ?_⟩
      congr 1
      omega
    · rintro ⟨j, hj, rfl⟩
      have hj' := List.mem_range.1 hj
      have hr := (B_range (s := s) hk' hkn (i0 n s + (j : Int))).2 (by omega)
      exact ⟨hr.1, hr.2, _, rfl⟩
theorem E_length {n s : Int} {k : Nat} (hk : 0 < k) (hkn : (k : Int) ≤ n) : (E n k s).length = k := by rw [E_list hk hkn]; simp
theorem E_valid {n s : Int} {k : Nat} (hk : 0 < k) (hkn : (k : Int) ≤ n) (h60 : n ≤ 60) : Valid n (E n k s) where
  n1 := by omega
  n2 := h60
  ne := fun h => by have := E_length (s := s) hk hkn; rw [h] at this; simp at this; omega
  lt := pick_strict _ _
  rng := fun x hx => by have := (mem_E (by omega) x).1 hx; exact ⟨this.1, this.2.1⟩
theorem sz1_pl {n : Int} {set : List Int} (hv : Valid n set) (d : Nat) (hd : d ≤ set.length) (i : Nat) (hi : i < set.length) :
    sz1 n set (d : Int) i = if h : i + d < set.length then set[i + d] - set[i] else (if h2 : i + d - set.length < set.length then set[i + d - set.length] + n - set[i] else 0) := by
  have h60 := hv.len60
  have hn := hv.n2
  have hn1 := hv.n1
  have gi := hv.get i hi
  have hw : wrap64 ((i : Int) + (d : Int)) = ((i + d : Nat) : Int) := by unfold wrap64; omega
  unfold sz1
  rw [hw, rd_nat _ _ hi, Int.tmod_eq_emod_of_nonneg (by omega), Int.tdiv_eq_ediv_of_nonneg (by omega)]
  by_cases h : i + d < set.length
  · rw [dif_pos h, Int.emod_eq_of_lt (by omega) (by omega), Int.ediv_eq_zero_of_lt (by omega) (by omega), rd_nat _ _ h]
    have gj := hv.get (i + d) h
    unfold wrap64
    omega
  · have h2 : i + d - set.length < set.length := by omega
    rw [dif_neg h, dif_pos h2]
    have e1 : ((i + d : Nat) : Int) % (set.length : Int) = ((i + d - set.length : Nat) : Int) := by
      rw [show ((i + d : Nat) : Int) = ((i + d - set.length : Nat) : Int) + (set.length : Int) by omega, Int.add_emod_right, Int.emod_eq_of_lt (by omega) (by omega)]
    have e2 : ((i + d : Nat) : Int) / (set.length : Int) = 1 := by
      rw [show ((i + d : Nat) : Int) = ((i + d - set.length : Nat) : Int) + (set.length : Int) * 1 by omega, Int.add_mul_ediv_left _ _ (by omega), Int.ediv_eq_zero_of_lt (by omega) (by omega)]
      rfl
    rw [e1, e2, rd_nat _ _ h2]
    have gj := hv.get _ h2
    have w1 : wrap64 1 = 1 := by unfold wrap64; omega
    rw [w1, Int.one_mul]
    unfold wrap64
    omega

theorem E_size {n s : Int} {k : Nat} (hk : 0 < k) (hkn : (k : Int) ≤ n) (h60 : n ≤ 60) (d : Nat) (hd : d ≤ k) (i : Nat) (hi : i < k) :
    n * (d : Int) / (k : Int) ≤ sz1 n (E n k s) (d : Int) i ∧ sz1 n (E n k s) (d : Int) i ≤ n * (d : Int) / (k : Int) + 1 := by
  have hv := E_valid (s := s) hk hkn h60
  have hl := E_length (s := s) hk hkn
  have hk' : (0 : Int) < (k : Int) := by omega
  have hg : ∀ j (h : j < (E n k s).length), (E n k s)[j] = B n k s (i0 n s + (j : Int)) := by
    intro j h
    have : (E n k s)[j]? = ((List.range k).map fun (j : Nat) => B n k s (i0 n s + (j : Int)))[j]? := by rw [← E_list hk hkn]
    rw [List.getElem?_eq_getElem h, List.getElem?_map, List.getElem?_range (by omega)] at this
    exact Option.some.inj this
  have e : sz1 n (E n k s) (d : Int) i = B n k s (i0 n s + (i : Int) + (d : Int)) - B n k s (i0 n s + (i : Int)) := by
    rw [sz1_pl hv d (by omega) i (by omega)]
    by_cases h : i + d < (E n k s).length
    · rw [dif_pos h, hg, hg]
      congr 2
      omega
    · have h2 : i + d - (E n k s).length < (E n k s).length := by omega
      rw [dif_neg h, dif_pos h2, hg, hg]
      have := B_period (n := n) (s := s) hk' (i0 n s + ((i + d - (E n k s).length : Nat) : Int))
      rw [show i0 n s + ((i + d - (E n k s).length : Nat) : Int) + (k : Int) = i0 n s + (i : Int) + (d : Int) by omega] at this
      rw [this]
  rw [e]
  exact B_size hk' _ _

/-! ### the least and the greatest -/
theorem foldl_mn (l : List Int) : ∀ x, (∀ y ∈ x :: l, l.foldl mn x ≤ y) ∧ (l.foldl mn x ∈ x :: l) := by
  induction l with
  | nil => intro x; simp
  | cons z l ih =>
    intro x
    obtain ⟨h1, h2⟩ := ih (mn x z)
    have hm : mn x z ≤ x ∧ mn x z ≤ z ∧ (mn x z = x ∨ mn x z = z) := by unfold mn; omega
    rw [List.foldl_cons]
    refine ⟨fun y hy => ?_, ?_⟩
    · have h0 := h1 (mn x z) (by simp)
      rcases List.mem_cons.1 hy with rfl | hy
      · omega
      · rcases List.mem_cons.1 hy with rfl | hy
        · omega
        · exact h1 y (List.mem_cons_of_mem _ hy)
    · rcases List.mem_cons.1 h2 with e | h2
      · rcases hm.2.2 with e2 | e2
        · rw [e, e2]; simp
        · rw [e, e2]; simp
      · exact List.mem_cons_of_mem _ (List.mem_cons_of_mem _ h2)
theorem foldl_mx (l : List Int) : ∀ x, (∀ y ∈ x :: l, y ≤ l.foldl mx x) ∧ (l.foldl mx x ∈ x :: l) := by
  induction l with
  | nil => intro x; simp
  | cons z l ih =>
    intro x
    obtain ⟨h1, h2⟩ := ih (mx x z)
    have hm : x ≤ mx x z ∧ z ≤ mx x z ∧ (mx x z = x ∨ mx x z = z) := by unfold mx; omega
    rw [List.foldl_cons]
    refine ⟨fun y hy => ?_, ?_⟩
    · have h0 := h1 (mx x z) (by simp)
      rcases List.mem_cons.1 hy with rfl | hy
      · omega
      · rcases List.mem_cons.1 hy with rfl | hy
        · omega
        · exact h1 y (List.mem_cons_of_mem _ hy)
    · rcases List.mem_cons.1 h2 with e | h2
      · rcases hm.2.2 with e2 | e2
        · rw [e, e2]; simp
        · rw [e, e2]; simp
      · exact List.mem_cons_of_mem _ (List.mem_cons_of_mem _ h2)
theorem min_spec {l : List Int} {a : Int} (h : slices_Min_int_int.f l = some a) : (∀ y ∈ l, a ≤ y) ∧ a ∈ l := by
  cases l with
  | nil => cases h
  | cons x xs => obtain rfl := Option.some.inj h; exact foldl_mn xs x
theorem max_spec {l : List Int} {a : Int} (h : slices_Max_int_int.f l = some a) : (∀ y ∈ l, y ≤ a) ∧ a ∈ l := by
  cases l with
  | nil => cases h
  | cons x xs => obtain rfl := Option.some.inj h; exact foldl_mx xs x

/-- If all sizes of each class lie at q or q + 1, the set is even. -/
theorem evenS_true {n : Int} {set : List Int} (hv : Valid n set) (Q : Int → Int) : ∀ (d c : Nat), 1 ≤ c → c + d = set.length → (∀ c' : Nat, c ≤ c' → c' < set.length → ∀ i, i < set.length → Q (c' : Int) ≤ sz1 n set (c' : Int) i ∧ sz1 n set (c' : Int) i ≤ Q (c' : Int) + 1) →
    evenS n set d (c : Int) = some (true, 0, 0, 0)
  | 0, _, _, _, _ => rfl
  | d + 1, c, h1, h2, hq => by
    have hpos := hv.len_pos
    have hl := szL_length n set (c : Int)
    have hne : szL n set (c : Int) ≠ [] := fun h => by rw [h] at hl; simp at hl; omega
    obtain ⟨a, ha⟩ := min_ok hne
    obtain ⟨b, hb⟩ := max_ok hne
    have hm : ∀ y ∈ szL n set (c : Int), Q (c : Int) ≤ y ∧ y ≤ Q (c : Int) + 1 := by
      intro y hy
      unfold szL at hy
      obtain ⟨i, hi, rfl⟩ := List.mem_map.1 hy
      exact hq c (by omega) (by omega) i (List.mem_range.1 hi)
    have a1 := hm a (min_spec ha).2
    have b1 := hm b (max_spec hb).2
    unfold evenS
    rw [ha, hb, Option.bind_some, Option.bind_some, if_neg (by unfold wrap64; omega)]
    have := evenS_true hv Q d (c + 1) (by omega) (by omega) (fun c' hc' => hq c' (by omega))
    exact this
theorem E_even {n s : Int} {k : Nat} (hk : 0 < k) (hkn : (k : Int) ≤ n) (h60 : n ≤ 60) : evenS n (E n k s) ((E n k s).length - 1) 1 = some (true, 0, 0, 0) := by
  have hv := E_valid (s := s) hk hkn h60
  have hl := E_length (s := s) hk hkn
  have := evenS_true hv (fun c => n * c / (k : Int)) ((E n k s).length - 1) 1 (by omega) (by omega) (fun c' h1 h2 i hi => E_size hk hkn h60 c' (by omega) i (by omega))
  exact this
theorem E_iseven {n s : Int} {k : Nat} (hk : 0 < k) (hkn : (k : Int) ≤ n) (h60 : n ≤ 60) {K : Nat} (hK : 200 < K) : evenness_IsEven.f K n (E n k s) = some (true, 0, 0, 0, 0) := by
  obtain ⟨r, hr, hi, _⟩ := iseven_ok (E_valid (s := s) hk hkn h60) hK
  rw [E_even hk hkn h60] at hr
  obtain rfl := Option.some.inj hr
  exact hi
end Go.Proofs.Ytdbleoijefihhaa.PEv
