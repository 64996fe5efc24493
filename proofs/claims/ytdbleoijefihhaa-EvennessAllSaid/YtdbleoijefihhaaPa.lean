/- Plain laws: a maximally even set is a moved set of quotients. -/
import Derived.Test.YtdbleoijefihhaaPr

namespace Go.Proofs.Ytdbleoijefihhaa.PEv
open Go.RowKit Go.Proofs.YtdbleoijefihhaaW.PrintWords Go.Proofs.YtdbleoijefihhaaW.PrintLast Go.Proofs.YtdbleoijefihhaaW.PrintMore
set_option linter.unusedVariables false
set_option linter.unusedSimpArgs false

/-! ### an even set is a moved set of quotients -/
/-- A sum of the first m values. -/
def sumTo (f : Nat → Int) : Nat → Int
  | 0 => 0
  | m + 1 => sumTo f m + f m
theorem sumTo_shift (f : Nat → Int) : ∀ m, sumTo (fun i => f (i + 1)) m = sumTo f m - f 0 + f m
  | 0 => by simp only [sumTo]; omega
  | m + 1 => by
    have := sumTo_shift f m
    simp only [sumTo]
    rw [this]
    omega
theorem sumTo_sub (f g : Nat → Int) : ∀ m, sumTo (fun i => f i - g i) m = sumTo f m - sumTo g m
  | 0 => rfl
  | m + 1 => by
    have := sumTo_sub f g m
    simp only [sumTo]
    rw [this]
    omega
theorem sumTo_le {f : Nat → Int} {b : Int} : ∀ m, (∀ i, i < m → f i ≤ b) → sumTo f m ≤ (m : Int) * b
  | 0, _ => by simp [sumTo]
  | m + 1, h => by
    have h1 := sumTo_le m (fun i hi => h i (by omega))
    have h2 := h m (by omega)
    simp only [sumTo]
    have e : ((m + 1 : Nat) : Int) * b = (m : Int) * b + b := by rw [show ((m + 1 : Nat) : Int) = (m : Int) + 1 by omega, Int.add_mul, Int.one_mul]
    omega
theorem sumTo_lt {f : Nat → Int} {b : Int} : ∀ m j, j < m → (∀ i, i < m → f i ≤ b) → f j < b → sumTo f m < (m : Int) * b
  | 0, j, hj, _, _ => by omega
  | m + 1, j, hj, h, hlt => by
    have e : ((m + 1 : Nat) : Int) * b = (m : Int) * b + b := by rw [show ((m + 1 : Nat) : Int) = (m : Int) + 1 by omega, Int.add_mul, Int.one_mul]
    simp only [sumTo]
    by_cases c : j = m
    · subst c
      have h1 := sumTo_le j (fun i hi => h i (by omega))
      omega
    · have h1 := sumTo_lt m j (by omega) (fun i hi => h i (by omega)) hlt
      have h2 := h m (by omega)
      omega

/-- The set, repeated with every n. -/
def cyc (n : Int) (set : List Int) (i : Nat) : Int := set.getD (i % set.length) 0 + ((i / set.length : Nat) : Int) * n
theorem cyc_add {n : Int} {set : List Int} (h : 0 < set.length) (i : Nat) : cyc n set (i + set.length) = cyc n set i + n := by
  unfold cyc
  rw [Nat.add_mod_right, Nat.add_div_right _ h]
  rw [show ((Nat.succ (i / set.length) : Nat) : Int) = ((i / set.length : Nat) : Int) + 1 by omega, Int.add_mul, Int.one_mul]
  omega
theorem cyc_lo {n : Int} {set : List Int} (i : Nat) (h : i < set.length) : cyc n set i = set[i] := by
  unfold cyc
  rw [Nat.mod_eq_of_lt h, Nat.div_eq_of_lt h]
  simp [h]
theorem cyc_size {n : Int} {set : List Int} (hv : Valid n set) (d : Nat) (hd : d ≤ set.length) (i : Nat) (hi : i < set.length) : sz1 n set (d : Int) i = cyc n set (i + d) - cyc n set i := by
  rw [sz1_pl hv d hd i hi, cyc_lo i hi]
  by_cases h : i + d < set.length
  · rw [dif_pos h, cyc_lo _ h]
  · have h2 : i + d - set.length < set.length := by omega
    rw [dif_neg h, dif_pos h2]
    have := cyc_add (n := n) hv.len_pos (i + d - set.length)
    rw [show i + d - set.length + set.length = i + d by omega, cyc_lo _ h2] at this
    omega
theorem cyc_sum {n : Int} {set : List Int} (hv : Valid n set) : ∀ c : Nat, sumTo (fun i => cyc n set (i + c)) set.length = sumTo (fun i => cyc n set i) set.length + (c : Int) * n
  | 0 => by simp
  | c + 1 => by
    have h1 := cyc_sum hv c
    have h2 := sumTo_shift (fun i => cyc n set (i + c)) set.length
    have h3 := cyc_add (n := n) hv.len_pos c
    have e : (fun i => cyc n set (i + 1 + c)) = fun i => cyc n set (i + (c + 1)) := funext fun i => by rw [show i + 1 + c = i + (c + 1) by omega]
    rw [e] at h2
    rw [h2, h1]
    simp only [Nat.zero_add]
    rw [show set.length + c = c + set.length by omega, h3, show ((c + 1 : Nat) : Int) * n = (c : Int) * n + n by rw [show ((c + 1 : Nat) : Int) = (c : Int) + 1 by omega, Int.add_mul, Int.one_mul]]
    omega
theorem cyc_mod {n : Int} {set : List Int} (h : 0 < set.length) (c : Nat) : ∀ i : Nat, cyc n set (i + c) - cyc n set i = cyc n set (i % set.length + c) - cyc n set (i % set.length) := by
  intro i
  induction i using Nat.strongRecOn with
  | _ i ih =>
    by_cases hi : i < set.length
    · rw [Nat.mod_eq_of_lt hi]
    · have h1 := ih (i - set.length) (by omega)
      have e : (i - set.length) % set.length = i % set.length := (Nat.mod_eq_sub_mod (by omega)).symm
      rw [e] at h1
      have h2 := cyc_add (n := n) h (i - set.length)
      have h3 := cyc_add (n := n) h (i - set.length + c)
      rw [show i - set.length + set.length = i by omega] at h2
      rw [show i - set.length + c + set.length = i + c by omega] at h3
      omega

/-- What an even set's sizes are at least. -/
theorem even_pairs {n : Int} {set : List Int} (hv : Valid n set) : ∀ (d c : Nat), 1 ≤ c → c + d = set.length → evenS n set d (c : Int) = some (true, 0, 0, 0) → ∀ c' : Nat, c ≤ c' → c' < set.length → ∀ i j, i < set.length → j < set.length → sz1 n set (c' : Int) i ≤ sz1 n set (c' : Int) j + 1
  | 0, c, h1, h2, _, c', g1, g2, _, _, _, _ => by omega
  | d + 1, c, h1, h2, he, c', g1, g2, i, j, hi, hj => by
    have hpos := hv.len_pos
    have hl := szL_length n set (c : Int)
    have hne : szL n set (c : Int) ≠ [] := fun h => by rw [h] at hl; simp at hl; omega
    obtain ⟨a, ha⟩ := min_ok hne
    obtain ⟨b, hb⟩ := max_ok hne
    unfold evenS at he
    rw [ha, hb, Option.bind_some, Option.bind_some] at he
    have hsz : ∀ i, i < set.length → ∀ c'' : Nat, c'' ≤ set.length → -60 ≤ sz1 n set (c'' : Int) i ∧ sz1 n set (c'' : Int) i ≤ 120 := by
      intro i hi c'' hc''
      rw [sz1_pl hv c'' hc'' i hi]
      have hn2 := hv.n2
      have hn1 := hv.n1
      have gi := hv.get i hi
      by_cases h : i + c'' < set.length
      · rw [dif_pos h]; have := hv.get _ h; omega
      · have h2 : i + c'' - set.length < set.length := by omega
        rw [dif_neg h, dif_pos h2]; have := hv.get _ h2; omega
    by_cases hgt : wrap64 (b - a) > 1
    · rw [if_pos hgt] at he
      obtain ⟨p, hp1, hp2⟩ := index_ok (szL n set (c : Int)) a (by have := hv.len60; omega) (show 60 < 61 by omega)
      obtain ⟨q, hq1, hq2⟩ := index_ok (szL n set (c : Int)) b (by have := hv.len60; omega) (show 60 < 61 by omega)
      rw [hp2, hq2, Option.bind_some, Option.bind_some] at he
      have := congrArg (fun o => o.map (·.1)) he
      simp at this
    · rw [if_neg hgt] at he
      by_cases e : c' = c
      · subst e
        have hmi : sz1 n set (c' : Int) i ∈ szL n set (c' : Int) := List.mem_map.2 ⟨i, List.mem_range.2 hi, rfl⟩
        have hmj : sz1 n set (c' : Int) j ∈ szL n set (c' : Int) := List.mem_map.2 ⟨j, List.mem_range.2 hj, rfl⟩
        have a1 := (min_spec ha).1 _ hmj
        have b1 := (max_spec hb).1 _ hmi
        obtain ⟨ia, hia, ea⟩ := List.mem_map.1 (min_spec ha).2
        obtain ⟨ib, hib, eb⟩ := List.mem_map.1 (max_spec hb).2
        have ra := hsz ia (List.mem_range.1 hia) c' (by omega)
        have rb := hsz ib (List.mem_range.1 hib) c' (by omega)
        unfold wrap64 at hgt
        omega
      · exact even_pairs hv d (c + 1) (by omega) (by omega) he c' (by omega) g2 i j hi hj
theorem even_low {n : Int} {set : List Int} (hv : Valid n set) (he : evenS n set (set.length - 1) 1 = some (true, 0, 0, 0)) (c : Nat) (hc : c < set.length) (i : Nat) : n * (c : Int) / (set.length : Int) ≤ cyc n set (i + c) - cyc n set i := by
  have hpos := hv.len_pos
  rw [cyc_mod hpos]
  have hi := Nat.mod_lt i hpos
  generalize i % set.length = i at hi
  by_cases c0 : c = 0
  · subst c0; simp
  · have hp := even_pairs hv (set.length - 1) 1 (by omega) (by omega) he c (by omega) hc
    have hs := cyc_sum hv c
    have hsub := sumTo_sub (fun i => cyc n set (i + c)) (fun i => cyc n set i) set.length
    rw [hs] at hsub
    have hsum : sumTo (fun i => cyc n set (i + c) - cyc n set i) set.length = (c : Int) * n := by
      rw [hsub]; omega
    by_cases h : n * (c : Int) / (set.length : Int) ≤ cyc n set (i + c) - cyc n set i
    · exact h
    · exfalso
      have q1 := Int.mul_ediv_self_le (x := n * (c : Int)) (k := (set.length : Int)) (by omega)
      have hall : ∀ j, j < set.length → cyc n set (j + c) - cyc n set j ≤ n * (c : Int) / (set.length : Int) := by
        intro j hj
        have := hp j i hj hi
        rw [cyc_size hv c (by omega) j hj, cyc_size hv c (by omega) i hi] at this
        omega
      have hlt := sumTo_lt (f := fun i => cyc n set (i + c) - cyc n set i) set.length i hi hall (by omega)
      rw [hsum] at hlt
      have e : (c : Int) * n = n * (c : Int) := Int.mul_comm _ _
      omega
/-- The greatest of the first values. -/
theorem greatest (f : Nat → Int) : ∀ m, 0 < m → ∃ j, j < m ∧ ∀ i, i < m → f i ≤ f j
  | 0, h => absurd h (Nat.lt_irrefl _)
  | 1, _ => ⟨0, Nat.one_pos, fun i hi => by
      have e : i = 0 := by omega
      rw [e]
      exact Int.le_refl _⟩
  | m + 2, _ => by
    obtain ⟨j, hj, h⟩ := greatest f (m + 1) (Nat.succ_pos _)
    by_cases c : f j ≤ f (m + 1)
    · exact ⟨m + 1, by omega, fun i hi => by
        by_cases e : i = m + 1
        · rw [e]; exact Int.le_refl _
        · exact Int.le_trans (h i (by omega)) c⟩
    · exact ⟨j, by omega, fun i hi => by
        by_cases e : i = m + 1
        · rw [e]; omega
        · exact h i (by omega)⟩
theorem even_rotation {n : Int} {set : List Int} (hv : Valid n set) (he : evenS n set (set.length - 1) 1 = some (true, 0, 0, 0)) : ∃ b : Nat, (b : Int) < n ∧ set = movL n (E n set.length 0) (b : Int) := by
  have hpos := hv.len_pos
  have hle := hv.len_le
  have hn1 := hv.n1
  have hn2 := hv.n2
  obtain ⟨m, hm⟩ : ∃ m, m = set.length := ⟨_, rfl⟩
  obtain ⟨j, hj, hmax⟩ := greatest (fun i => (set.length : Int) * cyc n set i - n * (i : Int)) set.length hpos
  -- the greatest of all, not of the first alone
  have hall : ∀ i : Nat, (set.length : Int) * cyc n set i - n * (i : Int) ≤ (set.length : Int) * cyc n set j - n * (j : Int) := by
    intro i
    induction i using Nat.strongRecOn with
    | _ i ih =>
      by_cases hi : i < set.length
      · exact hmax i hi
      · have h1 := ih (i - set.length) (by omega)
        have h2 := cyc_add (n := n) hpos (i - set.length)
        rw [show i - set.length + set.length = i by omega] at h2
        rw [h2]
        have e1 : (set.length : Int) * (cyc n set (i - set.length) + n) = (set.length : Int) * cyc n set (i - set.length) + (set.length : Int) * n := Int.mul_add _ _ _
        have e2 : n * ((i - set.length : Nat) : Int) = n * (i : Int) - n * (set.length : Int) := by rw [← Int.mul_sub]; congr 1; omega
        have e3 : (set.length : Int) * n = n * (set.length : Int) := Int.mul_comm _ _
        omega
  have hstep : ∀ c : Nat, c < set.length → cyc n set (j + c) - cyc n set j = n * (c : Int) / (set.length : Int) := by
    intro c hc
    have lo := even_low hv he c hc j
    have hi := hall (j + c)
    have e1 : n * ((j + c : Nat) : Int) = n * (j : Int) + n * (c : Int) := by rw [← Int.mul_add]; congr 1
    have q2 := Int.lt_mul_ediv_self_add (x := n * (c : Int)) (k := (set.length : Int)) (by omega)
    by_cases hh : cyc n set (j + c) - cyc n set j ≤ n * (c : Int) / (set.length : Int)
    · omega
    · have m1 : (set.length : Int) * (n * (c : Int) / (set.length : Int) + 1 + cyc n set j) ≤ (set.length : Int) * cyc n set (j + c) := Int.mul_le_mul_of_nonneg_left (by omega) (by omega)
      rw [Int.mul_add, Int.mul_add] at m1
      omega
  have hcj := cyc_lo (n := n) j hj
  have hgj := hv.get j hj
  refine ⟨set[j].toNat, by omega, ?_⟩
  have hvE := E_valid (n := n) (s := 0) hpos hle hn2
  refine strict_ext hv.lt (movL_strict hvE _) (fun z => ?_)
  rw [mem_movL hvE, mem_E (by omega), Int.toNat_of_nonneg hgj.1]
  have hk' : (0 : Int) < (set.length : Int) := by omega
  constructor
  · intro hz
    have rz := hv.rng z hz
    refine ⟨rz.1, rz.2, Int.emod_nonneg _ (by omega), Int.emod_lt_of_pos _ (by omega), ?_⟩
    obtain ⟨i, hi, rfl⟩ := List.getElem_of_mem hz
    rw [bt_iff hk' hle]
    obtain ⟨q, e1, g0, g1⟩ := mod_parts (set[i] - set[j]) (show 0 < n by omega)
    by_cases hij : j ≤ i
    · have := hstep (i - j) (by omega)
      rw [show j + (i - j) = i by omega, hcj, cyc_lo i hi] at this
      refine ⟨((i - j : Nat) : Int) - (set.length : Int) * q, ?_⟩
      have hb : B n (set.length : Int) 0 ((i - j : Nat) : Int) = set[i] - set[j] := by unfold B; rw [Int.add_zero]; omega
      have hper : ∀ t : Int, B n (set.length : Int) 0 (((i - j : Nat) : Int) - (set.length : Int) * t) = set[i] - set[j] - n * t := by
        intro t
        rw [B_iff hk']
        have hs := (B_iff hk' _ _).1 hb
        have a1 : n * (((i - j : Nat) : Int) - (set.length : Int) * t) = n * ((i - j : Nat) : Int) - n * ((set.length : Int) * t) := Int.mul_sub _ _ _
        have a2 : (set.length : Int) * (set[i] - set[j] - n * t) = (set.length : Int) * (set[i] - set[j]) - (set.length : Int) * (n * t) := Int.mul_sub _ _ _
        have a3 : (set.length : Int) * (n * t) = n * ((set.length : Int) * t) := Int.mul_left_comm _ _ _
        omega
      rw [hper]
      omega
    · have := hstep (i + set.length - j) (by omega)
      rw [show j + (i + set.length - j) = i + set.length by omega, hcj, cyc_add hpos, cyc_lo i hi] at this
      have hb : B n (set.length : Int) 0 ((i + set.length - j : Nat) : Int) = set[i] + n - set[j] := by unfold B; rw [Int.add_zero]; omega
      refine ⟨((i + set.length - j : Nat) : Int) - (set.length : Int) * (q + 1), ?_⟩
      have hper : ∀ t : Int, B n (set.length : Int) 0 (((i + set.length - j : Nat) : Int) - (set.length : Int) * t) = set[i] + n - set[j] - n * t := by
        intro t
        rw [B_iff hk']
        have hs := (B_iff hk' _ _).1 hb
        have a1 : n * (((i + set.length - j : Nat) : Int) - (set.length : Int) * t) = n * ((i + set.length - j : Nat) : Int) - n * ((set.length : Int) * t) := Int.mul_sub _ _ _
        have a2 : (set.length : Int) * (set[i] + n - set[j] - n * t) = (set.length : Int) * (set[i] + n - set[j]) - (set.length : Int) * (n * t) := Int.mul_sub _ _ _
        have a3 : (set.length : Int) * (n * t) = n * ((set.length : Int) * t) := Int.mul_left_comm _ _ _
        omega
      rw [hper, Int.mul_add, Int.mul_one]
      omega
  · rintro ⟨h0, h1, g0, g1, hb⟩
    obtain ⟨i, hi⟩ := (bt_iff hk' hle _).1 hb
    have hr := (B_range (s := 0) hk' hle i).1 ⟨by omega, by omega⟩
    have hz0 : i0 n 0 = 0 := by unfold i0; simp
    rw [hz0] at hr
    obtain ⟨c, rfl⟩ : ∃ c : Nat, i = (c : Int) := ⟨i.toNat, by omega⟩
    have hst := hstep c (by omega)
    have hBc : B n (set.length : Int) 0 (c : Int) = n * (c : Int) / (set.length : Int) := by unfold B; rw [Int.add_zero]
    obtain ⟨q, e1, _, _⟩ := mod_parts (z - set[j]) (show 0 < n by omega)
    -- the element at place j + c
    have hlt : j + c < set.length ∨ set.length ≤ j + c := by omega
    rcases hlt with hlt | hge
    · rw [cyc_lo _ hlt, hcj] at hst
      have hg2 := hv.get _ hlt
      have : z = set[j + c] := by
        have a : z % n = set[j + c] % n := mod_congr (by omega) q (by omega)
        rw [Int.emod_eq_of_lt h0 h1, Int.emod_eq_of_lt hg2.1 hg2.2] at a
        exact a
      rw [this]
      exact List.getElem_mem hlt
    · have h2 : j + c - set.length < set.length := by omega
      have hca := cyc_add (n := n) hpos (j + c - set.length)
      rw [show j + c - set.length + set.length = j + c by omega, cyc_lo _ h2] at hca
      rw [hca, hcj] at hst
      have hg2 := hv.get _ h2
      have : z = set[j + c - set.length] := by
        have a : z % n = set[j + c - set.length] % n := mod_congr (by omega) (q + 1) (by rw [Int.mul_add, Int.mul_one]; omega)
        rw [Int.emod_eq_of_lt h0 h1, Int.emod_eq_of_lt hg2.1 hg2.2] at a
        exact a
      rw [this]
      exact List.getElem_mem h2
end Go.Proofs.Ytdbleoijefihhaa.PEv
