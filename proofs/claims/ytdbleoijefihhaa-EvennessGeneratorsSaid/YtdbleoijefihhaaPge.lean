/- For any described set, Generator returns the least generator, and the least start for it, if there is one: the law EvennessGenerators in its plain form. -/
import Derived.Test.YtdbleoijefihhaaPd
import Derived.Test.YtdbleoijefihhaaPEvx11
namespace Go.Proofs.Ytdbleoijefihhaa.PEv
open Go.RowKit Go.Proofs.YtdbleoijefihhaaW.PrintWords Go.Proofs.YtdbleoijefihhaaW.PrintLast Go.Proofs.YtdbleoijefihhaaW.PrintMore
set_option linter.unusedVariables false
set_option linter.unusedSimpArgs false

/-- Does the chain from s give the set? -/
def hits (n : Int) (set : List Int) (g s : Int) : Bool := decide (chain n g s set.length 0 [] = some set)
/-- The first generator from g on, with its first start. -/
def search (n : Int) (set : List Int) : Nat → Int → Option (Int × Int)
  | 0, _ => none
  | d + 1, g => match set.find? (hits n set g) with | some s => some (g, s) | none => search n set d (g + 1)

theorem chain_mem {n g s : Int} : ∀ (d i : Nat) (out l : List Int), chain n g s d i out = some l → ∀ x ∈ out, x ∈ l
  | 0, i, out, l, h, x, hx => by obtain rfl := Option.some.inj h; exact (isort_perm out).mem_iff.2 hx
  | d + 1, i, out, l, h, x, hx => by
    unfold chain at h
    split at h
    · cases h
    · exact chain_mem d (i + 1) _ l h x (List.mem_append.2 (.inl hx))
theorem hits_mem {n g s : Int} {set : List Int} (hv : Valid n set) (h0 : 0 ≤ s) (h1 : s < n) (h : hits n set g s = true) : s ∈ set := by
  have h := of_decide_eq_true h
  obtain ⟨d, hd⟩ : ∃ d, set.length = d + 1 := ⟨set.length - 1, by have := hv.len_pos; omega⟩
  rw [hd] at h
  unfold chain at h
  split at h
  · cases h
  · refine chain_mem _ _ _ _ h s ?_
    have : Int.tmod (wrap64 (s + (wrap64 (((0 : Nat) : Int) * g)))) n = s := by
      have h2 := hv.n2
      have e1 : wrap64 (((0 : Nat) : Int) * g) = 0 := by simp [wrap64]
      have e2 : wrap64 (s + 0) = s := by unfold wrap64; omega
      rw [e1, e2, Int.tmod_eq_emod_of_nonneg h0, Int.emod_eq_of_lt h0 h1]
    rw [this]
    simp

theorem find_min {p : Int → Bool} : ∀ {l : List Int} {x : Int}, l.Pairwise (· < ·) → x ∈ l → p x = true → (∀ y ∈ l, p y = true → x ≤ y) → l.find? p = some x
  | [], _, _, hx, _, _ => by simp at hx
  | y :: l, x, hp, hx, hpx, hmin => by
    rw [List.pairwise_cons] at hp
    cases hy : p y with
    | true =>
      rw [List.find?_cons_of_pos hy]
      have h1 := hmin y (by simp) hy
      rcases List.mem_cons.1 hx with e | hx
      · rw [e]
      · have := hp.1 x hx; omega
    | false =>
      rw [List.find?_cons_of_neg (by simp [hy])]
      rcases List.mem_cons.1 hx with e | hx
      · rw [e, hy] at hpx; cases hpx
      · exact find_min hp.2 hx hpx (fun z hz => hmin z (List.mem_cons_of_mem _ hz))
theorem find_least {p : Int → Bool} : ∀ {l : List Int} {x : Int}, l.Pairwise (· < ·) → l.find? p = some x → ∀ y ∈ l, p y = true → x ≤ y
  | [], _, _, h, _, _, _ => by simp at h
  | z :: l, x, hp, h, y, hy, hpy => by
    rw [List.pairwise_cons] at hp
    cases hz : p z with
    | true =>
      rw [List.find?_cons_of_pos hz] at h
      injection h with h
      subst h
      rcases List.mem_cons.1 hy with e | hy
      · rw [e]; exact Int.le_refl _
      · exact Int.le_of_lt (hp.1 y hy)
    | false =>
      rw [List.find?_cons_of_neg (by simp [hz])] at h
      rcases List.mem_cons.1 hy with e | hy
      · rw [e, hz] at hpy; cases hpy
      · exact find_least hp.2 h y hy hpy
/-- The notes from i on. -/
def upFrom (i : Nat) : Nat → List Int
  | 0 => []
  | d + 1 => (i : Int) :: upFrom (i + 1) d
theorem mem_upFrom : ∀ (d i : Nat) (x : Int), x ∈ upFrom i d ↔ (i : Int) ≤ x ∧ x < ((i + d : Nat) : Int)
  | 0, i, x => by simp [upFrom]
  | d + 1, i, x => by
    rw [upFrom, List.mem_cons, mem_upFrom d (i + 1) x]
    omega
theorem upFrom_lt : ∀ (d i : Nat), (upFrom i d).Pairwise (· < ·)
  | 0, _ => List.Pairwise.nil
  | d + 1, i => List.pairwise_cons.2 ⟨fun y hy => by have := (mem_upFrom d (i + 1) y).1 hy; omega, upFrom_lt d (i + 1)⟩
theorem find_all {n : Int} {m : Nat} (hm : n = (m : Int)) {set : List Int} (hv : Valid n set) (g : Int) : (upFrom 0 m).find? (hits n set g) = set.find? (hits n set g) := by
  cases h : set.find? (hits n set g) with
  | none =>
    rw [List.find?_eq_none] at h ⊢
    intro x hx hp
    have hr := (mem_upFrom m 0 x).1 hx
    exact h x (hits_mem hv (by omega) (by omega) hp) hp
  | some x =>
    have hx := List.mem_of_find?_eq_some h
    have hp := List.find?_some h
    have hr := hv.rng x hx
    refine find_min (upFrom_lt m 0) ((mem_upFrom m 0 x).2 (by omega)) hp (fun y hy hpy => ?_)
    have hry := (mem_upFrom m 0 y).1 hy
    exact find_least hv.lt h y (hits_mem hv (by omega) (by omega) hpy) hpy

theorem equal_at (l m : List Int) (hl : l.length ≤ 60) {k : Nat} (hk : 61 < k) : slices_Equal_int_int.f k l m = some (decide (l = m)) :=
  at_rounds (slices_Equal_int_int.mono _ _) (by omega) (equal_f l m (by omega))

/-- The program's inner loop. -/
theorem gen_l1 {n : Int} {set : List Int} (hv : Valid n set) (g : Int) (hg0 : 0 ≤ g) (hg : g < n) (K : Nat) (hK : 200 < K) : ∀ (d j k : Nat), j ≤ set.length → set.length - j = d → K + d < k →
    evenness_Generator.l1 k n set g set (set.length : Int) (j : Int) = match (set.drop j).find? (hits n set g) with | some s => some (g, s, true, 0) | none => evenness_Generator.l0 (k - d - 1) n set (wrap64 (g + 1)) := by
  intro d
  induction d with
  | zero =>
    intro j k hj hd hk
    obtain ⟨k, rfl⟩ : ∃ q, k = q + 1 := ⟨k - 1, by omega⟩
    simp only [evenness_Generator.l1]
    rw [if_neg (by omega), List.drop_of_length_le (by omega)]
    rfl
  | succ d ih =>
    intro j k hj hd hk
    obtain ⟨k, rfl⟩ : ∃ q, k = q + 1 := ⟨k - 1, by omega⟩
    have hlt : j < set.length := by omega
    have h60 := hv.len60
    have hn2 := hv.n2
    have hgj := hv.get j hlt
    have hle := hv.len_le
    simp only [evenness_Generator.l1]
    rw [if_pos (by omega), if_pos (by omega), if_pos (by omega), rd_nat _ _ hlt, generated_ok hv.n1 hn2 (by omega) hle hg0 hg hgj.1 hgj.2 (by omega), Int.toNat_natCast]
    simp only [Option.bind_some]
    have ih' := ih (j + 1) k (by omega) (by omega) (by omega)
    rw [← wrap_succ hlt (show set.length ≤ 9223372036854775807 by omega), show k - d - 1 = k + 1 - (d + 1) - 1 by omega] at ih'
    rw [List.drop_eq_getElem_cons hlt]
    cases hc : chain n g set[j] set.length 0 [] with
    | none =>
      have hh : hits n set g set[j] = false := by unfold hits; rw [hc]; rfl
      rw [List.find?_cons_of_neg (by simp [hh])]
      simp only
      rw [if_neg (by decide)]
      exact ih'
    | some l =>
      have hll := chain_length _ _ _ _ hc
      simp only [if_true]
      rw [equal_at l set (by simp at hll; omega) (by omega)]
      simp only [Option.bind_some]
      by_cases e : l = set
      · have hh : hits n set g set[j] = true := by unfold hits; rw [hc, e]; simp
        rw [List.find?_cons_of_pos hh, decide_eq_true e, if_pos rfl]
      · have hh : hits n set g set[j] = false := by unfold hits; rw [hc]; simp [e]
        rw [List.find?_cons_of_neg (by simp [hh]), decide_eq_false e, if_neg (by decide)]
        exact ih'
/-- The program's outer loop. -/
theorem gen_l0 {n : Int} {set : List Int} (hv : Valid n set) (m : Nat) (hm : n = (m : Int)) : ∀ (d g k : Nat), 1 ≤ g → g ≤ m → m - g = d → 201 + d * 64 < k →
    evenness_Generator.l0 k n set (g : Int) = some (match search n set d (g : Int) with | some (a, b) => (a, b, true, 0) | none => (0, 0, false, 0)) := by
  intro d
  induction d with
  | zero =>
    intro g k h1 hg hd hk
    obtain ⟨k, rfl⟩ : ∃ q, k = q + 1 := ⟨k - 1, by omega⟩
    simp only [evenness_Generator.l0, search]
    rw [if_neg (by omega)]
  | succ d ih =>
    intro g k h1 hg hd hk
    obtain ⟨k, rfl⟩ : ∃ q, k = q + 1 := ⟨k - 1, by omega⟩
    have h60 := hv.len60
    have hn2 := hv.n2
    simp only [evenness_Generator.l0, search]
    rw [if_pos (by omega)]
    have h := gen_l1 hv (g : Int) (by omega) (by omega) 201 (by omega) set.length 0 k (by omega) (by omega) (by omega)
    rw [show ((0 : Nat) : Int) = 0 from rfl, List.drop_zero] at h
    rw [h]
    cases hf : set.find? (hits n set (g : Int)) with
    | some s => rfl
    | none =>
      simp only
      rw [wrap_succ (show g < m by omega) (by omega)]
      have := ih (g + 1) (k - set.length - 1) (by omega) (by omega) (by omega) (by omega)
      rw [this]
      rfl
theorem generator_ok {n : Int} {set : List Int} (hv : Valid n set) {k : Nat} (hk : 5000 < k) :
    evenness_Generator.f k n set = some (if set.length = 1 then ((0 : Int), (0 : Int), false, (0 : Int)) else match search n set (n.toNat - 1) 1 with | some (a, b) => (a, b, true, 0) | none => (0, 0, false, 0)) := by
  unfold evenness_Generator.f
  rw [check_ok hv (by omega)]
  simp only [Option.bind_some, if_true]
  have h1 := hv.n1
  have h2 := hv.n2
  by_cases e : set.length = 1
  · rw [if_pos (by omega), if_pos e]
  · rw [if_neg (by omega), if_neg e]
    have := gen_l0 hv n.toNat (by omega) (n.toNat - 1) 1 k (by omega) (by omega) (by omega) (by omega)
    exact this

/-- The model's inner loop. -/
theorem mod_l1 {n : Int} {set : List Int} (hv : Valid n set) (m : Nat) (hm : n = (m : Int)) (G S : Int) (F : Bool) (g : Int) (K : Nat) (hK : 200 < K) : ∀ (d j k : Nat), j ≤ m → m - j = d → K + d < k →
    schismalaw35_EvennessGenerators.l1 k n set G S F g n (j : Int) = match (upFrom j d).find? (hits n set g) with | some s => some (F && decide (G = g) && (S == s)) | none => schismalaw35_EvennessGenerators.l0 (k - d - 1) n set G S F (wrap64 (g + 1)) := by
  intro d
  induction d with
  | zero =>
    intro j k hj hd hk
    obtain ⟨k, rfl⟩ : ∃ q, k = q + 1 := ⟨k - 1, by omega⟩
    simp only [schismalaw35_EvennessGenerators.l1]
    rw [if_neg (by omega)]
    rfl
  | succ d ih =>
    intro j k hj hd hk
    obtain ⟨k, rfl⟩ : ∃ q, k = q + 1 := ⟨k - 1, by omega⟩
    have h60 := hv.len60
    have hn2 := hv.n2
    have hle := hv.len_le
    have hpos := hv.len_pos
    simp only [schismalaw35_EvennessGenerators.l1]
    rw [if_pos (by omega), lgenerated_ok hv.n1 hn2 (by omega) hle (by omega), Int.toNat_natCast]
    simp only [Option.bind_some]
    have ih' := ih (j + 1) k (by omega) (by omega) (by omega)
    rw [← wrap_succ (show j < m by omega) (show m ≤ 9223372036854775807 by omega), show k - d - 1 = k + 1 - (d + 1) - 1 by omega] at ih'
    rw [upFrom]
    cases hc : chain n g (j : Int) set.length 0 [] with
    | none =>
      have hh : hits n set g (j : Int) = false := by unfold hits; rw [hc]; rfl
      rw [List.find?_cons_of_neg (by simp [hh])]
      simp only [Bool.false_eq_true, if_false]
      exact ih'
    | some l =>
      have hll := chain_length _ _ _ _ hc
      simp only [if_true]
      rw [equal_at l set (by simp at hll; omega) (by omega)]
      simp only [Option.bind_some]
      by_cases e : l = set
      · have hh : hits n set g (j : Int) = true := by unfold hits; rw [hc, e]; simp
        rw [List.find?_cons_of_pos hh, decide_eq_true e, if_pos rfl]
        cases F <;> by_cases e2 : G = g <;> simp [e2]
      · have hh : hits n set g (j : Int) = false := by unfold hits; rw [hc]; simp [e]
        rw [List.find?_cons_of_neg (by simp [hh]), decide_eq_false e, if_neg (by decide)]
        exact ih'
/-- The model's outer loop agrees with what the search has found. -/
theorem mod_l0 {n : Int} {set : List Int} (hv : Valid n set) (h1 : set.length ≠ 1) (m : Nat) (hm : n = (m : Int)) (G S : Int) (F : Bool) : ∀ (d g k : Nat), 1 ≤ g → g ≤ m → m - g = d → 205 + d * 64 < k →
    (match search n set d (g : Int) with | some (a, b) => (a, b, true) | none => (0, 0, false)) = (G, S, F) → schismalaw35_EvennessGenerators.l0 k n set G S F (g : Int) = some true := by
  intro d
  induction d with
  | zero =>
    intro g k hg1 hg hd hk he
    obtain ⟨k, rfl⟩ : ∃ q, k = q + 2 := ⟨k - 2, by omega⟩
    simp only [search, Prod.mk.injEq] at he
    obtain ⟨rfl, rfl, rfl⟩ := he
    simp only [schismalaw35_EvennessGenerators.l0]
    rw [if_neg (by omega)]
    rfl
  | succ d ih =>
    intro g k hg1 hg hd hk he
    obtain ⟨k, rfl⟩ : ∃ q, k = q + 2 := ⟨k - 2, by omega⟩
    have h60 := hv.len60
    have hn2 := hv.n2
    have hpos := hv.len_pos
    simp only [schismalaw35_EvennessGenerators.l0]
    rw [if_pos (by omega), decide_eq_true (show (set.length : Int) > 1 by omega)]
    simp only [schismalaw35_EvennessGenerators.j1, if_true]
    have h := mod_l1 hv m hm G S F (g : Int) 201 (by omega) m 0 k (by omega) (by omega) (by omega)
    rw [show ((0 : Nat) : Int) = 0 from rfl, find_all hm hv] at h
    rw [h]
    simp only [search] at he
    cases hf : set.find? (hits n set (g : Int)) with
    | some s =>
      rw [hf] at he
      simp only [Prod.mk.injEq] at he
      obtain ⟨rfl, rfl, rfl⟩ := he
      simp
    | none =>
      rw [hf] at he
      simp only at he ⊢
      rw [wrap_succ (show g < m by omega) (by omega)]
      exact ih (g + 1) (k - m - 1) (by omega) (by omega) (by omega) (by omega) he

theorem generators_pure (a b : Int) (ha : (Lit.int .u8 a).wf = true) (_ : (Lit.int .u16 b).wf = true) : ∃ k, schismalaw35_EvennessGenerators.f k a b = some true := by
  obtain ⟨h0, h1⟩ := u8_range ha
  obtain ⟨n, set, hm, hv, hn⟩ := described b h0 h1
  refine ⟨6000, ?_⟩
  unfold schismalaw35_EvennessGenerators.f
  rw [known_ge (by omega), hm 6000 (by omega)]
  simp only [Option.bind_some, if_true]
  rw [generator_ok hv (by omega)]
  simp only [Option.bind_some]
  have hp := hv.n1
  have hn2 := hv.n2
  by_cases e : set.length = 1
  · rw [if_pos e]
    simp only [if_true]
    rw [show (6000 : Nat) = 5998 + 2 from rfl]
    simp only [schismalaw35_EvennessGenerators.l0]
    rw [show decide ((set.length : Int) > 1) = false from decide_eq_false (by omega)]
    simp only [schismalaw35_EvennessGenerators.j1, Bool.false_eq_true, if_false]
    split <;> rfl
  · rw [if_neg e]
    cases hs : search n set (n.toNat - 1) 1 with
    | none =>
      simp only [if_true]
      exact mod_l0 hv e n.toNat (by omega) 0 0 false (n.toNat - 1) 1 6000 (by omega) (by omega) (by omega) (by omega) (by rw [show ((1 : Nat) : Int) = 1 from rfl, hs])
    | some p =>
      obtain ⟨p1, p2⟩ := p
      simp only [if_true]
      exact mod_l0 hv e n.toNat (by omega) p1 p2 true (n.toNat - 1) 1 6000 (by omega) (by omega) (by omega) (by omega) (by rw [show ((1 : Nat) : Int) = 1 from rfl, hs])
end Go.Proofs.Ytdbleoijefihhaa.PEv
