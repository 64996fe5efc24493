/- For any n up to 12 and any number of notes, All tells every maximally even set of that size, each once and in order: the law EvennessAll, for all values of its two parameters. -/
import Derived.Test.YtdbleoijefihhaaPa
import Derived.Test.YtdbleoijefihhaaPEvx13
namespace Go.Proofs.Ytdbleoijefihhaa.PEv
open Go.RowKit Go.Proofs.YtdbleoijefihhaaW.PrintWords Go.Proofs.YtdbleoijefihhaaW.PrintLast Go.Proofs.YtdbleoijefihhaaW.PrintMore
set_option linter.unusedVariables false
set_option linter.unusedSimpArgs false

/-! ### a set as the bits of a number -/
def tb (b i : Int) : Bool := decide ((Go.bits .and .i64 (shr .i64 b i) 1) = 1)
theorem tb_bit (b i : Nat) (hb : b < 4096) (hi : i < 12) : tb (b : Int) (i : Int) = b.testBit i := by
  have e1 : shr .i64 (b : Int) (i : Int) = ((b / 2 ^ i : Nat) : Int) := by
    unfold shr
    rw [Int.toNat_natCast, Nat.min_eq_left (by simp only [IntKind.bits]; omega)]
    simp
  have hq : b / 2 ^ i < 4096 := Nat.lt_of_le_of_lt (Nat.div_le_self _ _) hb
  have e2 : Go.bits .and .i64 ((b / 2 ^ i : Nat) : Int) 1 = ((b / 2 ^ i % 2 : Nat) : Int) := by
    generalize b / 2 ^ i = q at hq
    have hu : Go.bits .and .i64 (q : Int) 1 = wrap64 (((BitVec.ofInt 64 (q : Int) &&& BitVec.ofInt 64 1).toNat : Nat) : Int) := by unfold wrap64; rw [← IntKind.wrap_i64]; rfl
    have : (BitVec.ofInt 64 (q : Int) &&& BitVec.ofInt 64 1).toNat = q % 2 := by
      rw [BitVec.toNat_and]
      rw [show BitVec.ofInt 64 (q : Int) = BitVec.ofNat 64 q from BitVec.ofInt_natCast .., show BitVec.ofInt 64 1 = BitVec.ofNat 64 1 from rfl, BitVec.toNat_ofNat, BitVec.toNat_ofNat]
      rw [Nat.mod_eq_of_lt (show q < 2 ^ 64 by omega), Nat.mod_eq_of_lt (show 1 < 2 ^ 64 by omega)]
      exact Nat.and_one_is_mod q
    rw [hu, this]
    unfold wrap64
    omega
  unfold tb
  rw [e1, e2, Nat.testBit_eq_decide_div_mod_eq]
  congr 1
  apply propext
  omega
/-- The number whose bits are the members. -/
def code (p : Nat → Bool) : Nat → Nat
  | 0 => 0
  | i + 1 => code p i + (if p i then 2 ^ i else 0)
theorem code_lt (p : Nat → Bool) : ∀ i, code p i < 2 ^ i
  | 0 => by simp [code]
  | i + 1 => by
    have := code_lt p i
    simp only [code, Nat.pow_succ]
    split <;> omega
theorem code_bit (p : Nat → Bool) : ∀ i j, j < i → (code p i).testBit j = p j
  | 0, j, h => by omega
  | i + 1, j, h => by
    have hl := code_lt p i
    simp only [code]
    by_cases e : j = i
    · subst e
      by_cases c : p j = true
      · rw [if_pos c, Nat.add_comm, Nat.testBit_two_pow_add_eq, Nat.testBit_lt_two_pow hl, c]; rfl
      · rw [if_neg c, Nat.add_zero, Nat.testBit_lt_two_pow hl]
        simpa using c
    · have hj : j < i := by omega
      have := code_bit p i j hj
      by_cases c : p i = true
      · rw [if_pos c, Nat.add_comm, Nat.testBit_two_pow_add_gt hj, this]
      · rw [if_neg c, Nat.add_zero, this]

/-- Sets that the law keeps. -/
def keptSet (n m : Int) (x : List Int) : Bool := decide ((x.length : Int) = m ∧ evenS n x (x.length - 1) 1 = some (true, 0, 0, 0))
def wantL (n : Nat) (m : Int) (b : Nat) : List (List Int) := ((List.range b).map fun (j : Nat) => pick (tb (j : Int)) n).filter (keptSet (n : Int) m)
theorem wantL_succ (n : Nat) (m : Int) (b : Nat) : wantL n m (b + 1) = wantL n m b ++ (if keptSet (n : Int) m (pick (tb (b : Int)) n) then [pick (tb (b : Int)) n] else []) := by
  unfold wantL
  rw [List.range_succ, List.map_append, List.filter_append]
  congr 1
  simp only [List.map_cons, List.map_nil]
  by_cases c : keptSet (n : Int) m (pick (tb (b : Int)) n) = true
  · simp [c]
  · simp [c]
theorem wantL_length (n : Nat) (m : Int) (b : Nat) : (wantL n m b).length ≤ b := by
  unfold wantL
  exact Nat.le_trans (List.length_filter_le _ _) (by simp)
theorem evenS_cases {n : Int} {set : List Int} : ∀ (d : Nat) (c : Int) {r : Bool × Int × Int × Int}, evenS n set d c = some r → r.1 = true → r = (true, 0, 0, 0)
  | 0, c, r, h, _ => by unfold evenS at h; exact (Option.some.inj h).symm
  | d + 1, c, r, h, ht => by
    unfold evenS at h
    obtain ⟨a, _, h⟩ := Option.bind_eq_some_iff.1 h
    obtain ⟨b, _, h⟩ := Option.bind_eq_some_iff.1 h
    by_cases e : wrap64 (b - a) > 1
    · rw [if_pos e] at h
      obtain ⟨p, _, h⟩ := Option.bind_eq_some_iff.1 h
      obtain ⟨q, _, h⟩ := Option.bind_eq_some_iff.1 h
      have := Option.some.inj h
      subst this
      exact absurd ht (by simp)
    · rw [if_neg e] at h
      exact evenS_cases d (c + 1) h ht
theorem pick_valid {n : Nat} (h1 : 1 ≤ n) (h60 : n ≤ 60) {p : Int → Bool} (h : pick p n ≠ []) : Valid (n : Int) (pick p n) where
  n1 := by omega
  n2 := by omega
  ne := h
  lt := pick_strict _ _
  rng := fun x hx => by have := (mem_pick p n x).1 hx; omega

theorem all_l1 {n : Nat} {m : Int} (h1 : 1 ≤ n) (h12 : n ≤ 12) (hm : 1 ≤ m) (x5 : List (List Int)) (x6 : Int) (x7 : List (List Int)) (h7 : x7.length ≤ 4096) (b : Nat) (hb : b < 4096) (x53 : Int) : ∀ (d i k : Nat), i ≤ n → n - i = d → d + 210 < k →
    ∃ k', k' + d + 1 = k ∧ schismalaw35_EvennessAll.l1 k (n : Int) m x5 x6 x7 (b : Int) (pick (tb (b : Int)) i) x53 (b : Int) (n : Int) (i : Int) = schismalaw35_EvennessAll.l0 k' (n : Int) m x5 x6 (x7 ++ if keptSet (n : Int) m (pick (tb (b : Int)) n) then [pick (tb (b : Int)) n] else []) x53 ((b + 1 : Nat) : Int) := by
  intro d
  induction d with
  | zero =>
    intro i k hi hd hk
    obtain ⟨k, rfl⟩ : ∃ j, k = j + 1 := ⟨k - 1, by omega⟩
    obtain rfl : i = n := by omega
    refine ⟨k, by omega, ?_⟩
    simp only [schismalaw35_EvennessAll.l1]
    rw [if_neg (by omega), wrap_succ hb (by omega)]
    by_cases e : ((pick (tb (b : Int)) i).length : Int) = m
    · rw [if_pos e]
      have hv := pick_valid (p := tb (b : Int)) h1 (by omega) (fun h => by rw [h] at e; simp at e; omega)
      obtain ⟨r, hr, _, hr2⟩ := iseven_ok hv (show 200 < k by omega)
      rw [hr2, Option.bind_some]
      by_cases c : r.1 = true
      · rw [if_pos c, if_pos (by omega)]
        have hk : keptSet (i : Int) m (pick (tb (b : Int)) i) = true := by
          unfold keptSet
          rw [decide_eq_true_eq, hr, evenS_cases _ _ hr c]
          exact ⟨e, rfl⟩
        rw [if_pos hk]
      · rw [if_neg c]
        have hk : ¬ keptSet (i : Int) m (pick (tb (b : Int)) i) = true := by
          unfold keptSet
          rw [decide_eq_true_eq]
          rintro ⟨_, g⟩
          rw [hr] at g
          rw [Option.some.inj g] at c
          exact c rfl
        rw [if_neg hk, List.append_nil]
    · rw [if_neg e]
      have hk : ¬ keptSet (i : Int) m (pick (tb (b : Int)) i) = true := by
        unfold keptSet
        rw [decide_eq_true_eq]
        exact fun g => e g.1
      rw [if_neg hk, List.append_nil]
  | succ d ih =>
    intro i k hi hd hk
    obtain ⟨k, rfl⟩ : ∃ j, k = j + 1 := ⟨k - 1, by omega⟩
    have hl := pick_length (tb (b : Int)) i
    have hs := pick_succ (tb (b : Int)) i
    obtain ⟨k', e1, e2⟩ := ih (i + 1) k (by omega) (by omega) (by omega)
    refine ⟨k', by omega, ?_⟩
    rw [← e2]
    simp only [schismalaw35_EvennessAll.l1]
    rw [if_pos (by omega), if_pos (by omega), wrap_succ (show i < n by omega) (by omega), hs]
    by_cases c : (Go.bits .and .i64 (shr .i64 (b : Int) (i : Int)) 1) = 1
    · have ht : tb (b : Int) (i : Int) = true := decide_eq_true c
      rw [if_pos c, if_pos (by omega), if_pos ht]
    · have ht : ¬ tb (b : Int) (i : Int) = true := fun h => c (of_decide_eq_true h)
      rw [if_neg c, if_neg ht, List.append_nil]
theorem all_l0 {n : Nat} {m : Int} (h1 : 1 ≤ n) (h12 : n ≤ 12) (hm : 1 ≤ m) (x5 : List (List Int)) (N : Nat) (hN : N ≤ 4096) : ∀ (d b k : Nat), b ≤ N → N - b = d → d * 16 + 230 < k →
    schismalaw35_EvennessAll.l0 k (n : Int) m x5 0 (wantL n m b) (N : Int) (b : Int) = some (decide (x5 = dedup (lsort (wantL n m N)))) := by
  intro d
  induction d with
  | zero =>
    intro b k hb hd hk
    obtain ⟨k, rfl⟩ : ∃ j, k = j + 1 := ⟨k - 1, by omega⟩
    obtain rfl : b = N := by omega
    have hl := wantL_length n m b
    simp only [schismalaw35_EvennessAll.l0]
    rw [if_neg (by omega), if_pos True.intro]
    unfold schismalaw35_distinct.f schismalaw35_same.f
    rw [if_pos (by omega)]
    rfl
  | succ d ih =>
    intro b k hb hd hk
    obtain ⟨k, rfl⟩ : ∃ j, k = j + 1 := ⟨k - 1, by omega⟩
    have hl := wantL_length n m b
    simp only [schismalaw35_EvennessAll.l0]
    rw [if_pos (by omega)]
    obtain ⟨k', e1, e2⟩ := all_l1 h1 h12 hm x5 0 (wantL n m b) (by omega) b (by omega) (N : Int) n 0 k (by omega) (by omega) (by omega)
    rw [show pick (tb (b : Int)) 0 = [] from rfl] at e2
    rw [show ((0 : Nat) : Int) = 0 from rfl] at e2
    rw [e2, ← wantL_succ]
    exact ih (b + 1) k' (by omega) (by omega) (by omega)

theorem lexsort_sorted (l : List (List Int)) : (lsort l).Pairwise (fun a b => lexcmp a b ≤ 0) := lsort_sorted l
theorem all_same {n m : Nat} (hm : 0 < m) (hmn : m ≤ n) (h12 : n ≤ 12) : dedup (lsort (rots (n : Int) (E (n : Int) m 0))) = dedup (lsort (wantL n (m : Int) (2 ^ n))) := by
  have hmn' : (m : Int) ≤ (n : Int) := by omega
  have h60 : (n : Int) ≤ 60 := by omega
  have hp : 2 ^ n ≤ 4096 := Nat.pow_le_pow_right (n := 2) (by omega) h12
  refine lstrict_ext (ldedup_strict _ (lsort_sorted _)) (ldedup_strict _ (lsort_sorted _)) (fun x => ?_)
  rw [mem_dedup, mem_dedup, mem_lsort, mem_lsort, rots_eq (by omega), Int.toNat_natCast]
  constructor
  · intro h
    obtain ⟨b, hb, rfl⟩ := List.mem_map.1 h
    rw [movL_E hm hmn' h60]
    generalize (0 : Int) + (m : Int) * (b : Int) = s
    have hv := E_valid (s := s) hm hmn' h60
    unfold wantL
    rw [List.mem_filter]
    refine ⟨List.mem_map.2 ⟨code (fun j => decide ((j : Int) ∈ E (n : Int) m s)) n, List.mem_range.2 (code_lt _ _), ?_⟩, ?_⟩
    · have hc := code_lt (fun j => decide ((j : Int) ∈ E (n : Int) m s)) n
      refine strict_ext (pick_strict _ _) hv.lt (fun z => ?_)
      rw [mem_pick]
      constructor
      · rintro ⟨z0, z1, hz⟩
        obtain ⟨j, rfl⟩ : ∃ j : Nat, z = (j : Int) := ⟨z.toNat, by omega⟩
        rw [tb_bit _ _ (by omega) (by omega), code_bit _ _ _ (by omega)] at hz
        exact of_decide_eq_true hz
      · intro hz
        have rz := hv.rng z hz
        obtain ⟨j, rfl⟩ : ∃ j : Nat, z = (j : Int) := ⟨z.toNat, by omega⟩
        refine ⟨by omega, by omega, ?_⟩
        rw [tb_bit _ _ (by omega) (by omega), code_bit _ _ _ (by omega)]
        exact decide_eq_true hz
    · unfold keptSet
      rw [decide_eq_true_eq]
      exact ⟨by rw [E_length hm hmn'], E_even hm hmn' h60⟩
  · intro h
    unfold wantL at h
    obtain ⟨h, hk⟩ := List.mem_filter.1 h
    obtain ⟨c, hc, rfl⟩ := List.mem_map.1 h
    unfold keptSet at hk
    rw [decide_eq_true_eq] at hk
    have hv := pick_valid (p := tb (c : Int)) (n := n) (by omega) (by omega) (fun h => by have := hk.1; rw [h] at this; simp at this; omega)
    obtain ⟨b, hb, he⟩ := even_rotation hv hk.2
    have hlen : (pick (tb (c : Int)) n).length = m := by omega
    rw [hlen] at he
    exact List.mem_map.2 ⟨b, List.mem_range.2 (by omega), he.symm⟩
end Go.Proofs.Ytdbleoijefihhaa.PEv
namespace Go.Proofs.Ytdbleoijefihhaa.Pure
open Go.RowKit Go.Proofs.Ytdbleoijefihhaa.PEv Go.Proofs.YtdbleoijefihhaaW.PrintWords Go.Proofs.YtdbleoijefihhaaW.PrintLast

theorem EvennessAll : schismalaw35_EvennessAll.Pure := by
  intro n m hn hm
  obtain ⟨K, hK⟩ : ∃ K : Nat, 70000 ≤ K := ⟨70000, Nat.le_refl _⟩
  refine ⟨K, ?_⟩
  have hkn := known_ge (show 100 ≤ K by omega)
  obtain ⟨k, rfl⟩ : ∃ k, K = k + 2 := ⟨K - 2, by omega⟩
  have hkn1 := known_ge (show 100 ≤ k + 1 by omega)
  unfold schismalaw35_EvennessAll.f
  rw [hkn, Option.bind_some, if_pos rfl]
  -- what stands once the known sets agree
  have rest : (n ≤ 12 ∨ 60 < n) → schismalaw35_EvennessAll.j0 (k + 2) n m false = some true := by
    intro hr
    by_cases hbad : n < 1 ∨ 60 < n ∨ m < 1 ∨ n < m
    · have e : evenness_All.f (k + 1) n m = some ([], 3) := by
        unfold evenness_All.f
        rw [make_bad (by omega) (by omega), Option.bind_some]
        rfl
      have hj : schismalaw35_EvennessAll.j1 (k + 1) n m [] 3 true = some true := by
        simp only [schismalaw35_EvennessAll.j1]
        rfl
      simp only [schismalaw35_EvennessAll.j0]
      rw [if_neg (by simp), e, Option.bind_some]
      dsimp only
      by_cases c1 : n < 1
      · rw [if_pos c1]; exact hj
      · rw [if_neg c1]
        by_cases c2 : n > 60
        · rw [if_pos c2]; exact hj
        · rw [if_neg c2]
          by_cases c3 : m < 1
          · rw [if_pos c3]; exact hj
          · rw [if_neg c3, decide_eq_true (show m > n by omega)]; exact hj
    · obtain ⟨n', rfl⟩ : ∃ j : Nat, n = (j : Int) := ⟨n.toNat, by omega⟩
      obtain ⟨m', rfl⟩ : ∃ j : Nat, m = (j : Int) := ⟨m.toNat, by omega⟩
      have h12 : n' ≤ 12 := by omega
      have hE := makeL_E (n := (n' : Int)) (s := 0) (k := m') (by omega) (by omega) (by omega) (by omega) (by omega)
      have hv := E_valid (n := (n' : Int)) (s := 0) (k := m') (by omega) (by omega) (by omega)
      have e : evenness_All.f (k + 1) (n' : Int) (m' : Int) = some (dedup (lsort (rots (n' : Int) (E (n' : Int) m' 0))), 0) := by
        unfold evenness_All.f
        rw [make_ok (by omega) (by omega) (by omega) (by omega) (by omega) (by omega) (by omega), hE, Option.bind_some, if_pos rfl, rotations_ok hv (by omega)]
        rfl
      have hp : 2 ^ n' ≤ 4096 := Nat.pow_le_pow_right (n := 2) (by omega) h12
      have hsh : shl .i64 1 (n' : Int) = ((2 ^ n' : Nat) : Int) := by
        unfold shl
        rw [Int.toNat_natCast, Nat.min_eq_left (by simp only [IntKind.bits]; omega)]
        have e2 : (1 : Int) * 2 ^ n' = ((2 ^ n' : Nat) : Int) := by simp
        rw [e2]
        generalize 2 ^ n' = q at hp
        rw [IntKind.wrap_i64]
        omega
      simp only [schismalaw35_EvennessAll.j0]
      rw [if_neg (by simp), e, Option.bind_some, if_neg (by omega), if_neg (by omega), if_neg (by omega), decide_eq_false (show ¬ ((m' : Int) > (n' : Int)) by omega)]
      simp only [schismalaw35_EvennessAll.j1]
      rw [if_neg (by simp), if_pos (by omega), hsh]
      have hq0 : 0 < 2 ^ n' := Nat.two_pow_pos n'
      have := all_l0 (n := n') (m := (m' : Int)) (by omega) h12 (by omega) (dedup (lsort (rots (n' : Int) (E (n' : Int) m' 0)))) (2 ^ n') hp (2 ^ n') 0 k (by omega) (by omega) (by omega)
      rw [show wantL n' (m' : Int) 0 = [] from rfl, show ((0 : Nat) : Int) = 0 from rfl] at this
      rw [this, all_same (by omega) (by omega) h12]
      simp
  by_cases h12 : n > 12
  · rw [if_pos h12]
    by_cases h60 : n ≤ 60
    · rw [decide_eq_true h60]
      simp only [schismalaw35_EvennessAll.j0]
      rw [if_pos True.intro, hkn1]
      rfl
    · rw [decide_eq_false h60]
      exact rest (by omega)
  · rw [if_neg h12]
    exact rest (by omega)

end Go.Proofs.Ytdbleoijefihhaa.Pure
