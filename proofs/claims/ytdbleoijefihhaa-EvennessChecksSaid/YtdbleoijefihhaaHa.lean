/- Contracts of slices.Sort, Compact, Min and Max at []int, in the form that the printed callers use. -/
import Derived.Test.YtdbleoijefihhaaHz
import Derived.Test.YtdbleoijefihhaaShelf
import Derived.Sort.OwnSortedInts
namespace Go.Proofs.Ytdbleoijefihhaa.PEv
open Go.RowKit Go.Proofs.YtdbleoijefihhaaW.PrintWords Go.Proofs.YtdbleoijefihhaaW.PrintLast Go.Proofs.YtdbleoijefihhaaW.PrintMore
set_option linter.unusedVariables false
set_option linter.unusedSimpArgs false
open Go.Shelf Go.Lib Go.Sort

/-! ### the plain side -/
theorem ins_perm (x : Int) : ∀ l, (ins x l).Perm (x :: l)
  | [] => List.Perm.refl _
  | y :: ys => by
    unfold ins
    split
    · exact List.Perm.refl _
    · exact ((ins_perm x ys).cons y).trans (List.Perm.swap x y ys)
theorem isort_perm : ∀ l, (isort l).Perm l
  | [] => List.Perm.refl _
  | x :: xs => (ins_perm x (isort xs)).trans ((isort_perm xs).cons x)
theorem ins_sorted (x : Int) : ∀ l, l.Pairwise (· ≤ ·) → (ins x l).Pairwise (· ≤ ·)
  | [], _ => by simp [ins]
  | y :: ys, h => by
    unfold ins
    rw [List.pairwise_cons] at h
    split
    · rename_i hxy
      refine List.pairwise_cons.2 ⟨fun z hz => ?_, List.pairwise_cons.2 h⟩
      rcases List.mem_cons.1 hz with rfl | hz
      · exact hxy
      · exact Int.le_trans hxy (h.1 z hz)
    · rename_i hxy
      refine List.pairwise_cons.2 ⟨fun z hz => ?_, ins_sorted x ys h.2⟩
      rcases List.mem_cons.1 ((ins_perm x ys).mem_iff.1 hz) with rfl | hz
      · omega
      · exact h.1 z hz
theorem isort_sorted : ∀ l, (isort l).Pairwise (· ≤ ·)
  | [] => List.Pairwise.nil
  | x :: xs => ins_sorted x _ (isort_sorted xs)
theorem sorted_unique : ∀ {l m : List Int}, l.Perm m → l.Pairwise (· ≤ ·) → m.Pairwise (· ≤ ·) → l = m
  | [], m, hp, _, _ => hp.nil_eq
  | x :: l, [], hp, _, _ => absurd hp.symm.nil_eq (by simp)
  | x :: l, y :: m, hp, h1, h2 => by
    rw [List.pairwise_cons] at h1 h2
    have hxy : x = y := by
      have a : x ∈ y :: m := hp.mem_iff.1 (by simp)
      have b : y ∈ x :: l := hp.mem_iff.2 (by simp)
      rcases List.mem_cons.1 a with e | a
      · exact e
      rcases List.mem_cons.1 b with e | b
      · exact e.symm
      exact Int.le_antisymm (h1.1 y b) (h2.1 x a)
    subst hxy
    rw [sorted_unique (hp.cons_inv) h1.2 h2.2]
theorem mergeSort_isort (zs : List Int) : (zs.mergeSort fun x y => decide (x ≤ y)) = isort zs := by
  refine sorted_unique ((List.mergeSort_perm _ _).trans (isort_perm zs).symm) ?_ (isort_sorted zs)
  have h := List.pairwise_mergeSort (le := fun (x y : Int) => decide (x ≤ y)) (fun a b c h1 h2 => by simp at *; omega) (fun a b => by simp; omega) zs
  exact h.imp (fun {a b} h => by simpa using h)
theorem isort_length (l : List Int) : (isort l).length = l.length := (isort_perm l).length_eq

theorem dedup_range {α : Type} [Inhabited α] [DecidableEq α] : ∀ (n : Nat) (d : Array α) (i : Nat), i + n = d.size → 0 < i →
    ((List.range' i n).filter (keeps d)).map (d[·]!) = (dedup (d[i - 1]! :: (List.range' i n).map (d[·]!))).tail := by
  intro n
  induction n with
  | zero => intro d i _ _; simp [dedup]
  | succ n ih =>
    intro d i hi h0
    have h := ih d (i + 1) (by omega) (by omega)
    rw [show i + 1 - 1 = i by omega] at h
    rw [List.range'_succ, List.map_cons, dedup]
    by_cases e : d[i - 1]! = d[i]!
    · have hk : keeps d i = false := by simp [keeps, e]; omega
      rw [if_pos e, List.filter_cons_of_neg (by simp [hk])]
      rw [h]
    · have hk : keeps d i = true := by simp [keeps, Ne.symm e]
      rw [if_neg e, List.filter_cons_of_pos (by simp [hk]), List.map_cons, h, List.tail_cons]
      cases hq : dedup (d[i]! :: (List.range' (i + 1) n).map (d[·]!)) with
      | nil =>
        exfalso
        revert hq
        generalize (List.range' (i + 1) n).map (d[·]!) = m
        generalize d[i]! = x
        induction m generalizing x with
        | nil => simp [dedup]
        | cons y m ih2 =>
          unfold dedup
          split
          · exact ih2 y
          · simp
      | cons y m =>
        have : y = d[i]! := by
          revert hq
          generalize (List.range' (i + 1) n).map (d[·]!) = m'
          generalize d[i]! = x
          induction m' generalizing x with
          | nil => simp [dedup]; intro h _; exact h.symm
          | cons z m' ih2 =>
            unfold dedup
            split
            · rename_i e; subst e; exact ih2 x
            · intro h; injection h with h _; exact h.symm
        rw [this, List.tail_cons]
theorem dedup_head {α : Type} [DecidableEq α] (x : α) (m : List α) : ∃ m', dedup (x :: m) = x :: m' := by
  induction m generalizing x with
  | nil => exact ⟨[], rfl⟩
  | cons y m ih =>
    unfold dedup
    split
    · rename_i e; subst e; exact ih x
    · exact ⟨_, rfl⟩
theorem compact_dedup {α : Type} [Inhabited α] [DecidableEq α] (zs : List α) : Lib.compact zs = dedup zs := by
  cases zs with
  | nil => rfl
  | cons x zs =>
    unfold Lib.compact compactUpTo
    have h := dedup_range zs.length (x :: zs).toArray 1 (by simp; omega) (by omega)
    have e : (x :: zs).length = zs.length + 1 := rfl
    rw [e, List.range_eq_range', List.range'_succ, List.filter_cons_of_pos (by simp [keeps]), List.map_cons, h]
    have hm : (List.range' 1 zs.length).map ((x :: zs).toArray[·]!) = zs := by
      apply List.ext_getElem
      · simp
      · intro i h1 h2
        simp [getElem!_pos, h2, Nat.add_comm 1 i]
    simp only [hm]
    have h0 : ((x :: zs).toArray[0]!) = x := by simp
    rw [show (1 : Nat) - 1 = 0 from rfl, h0]
    obtain ⟨m', hm'⟩ := dedup_head x zs
    rw [hm', List.tail_cons]

/-! ### the machine's side -/
theorem slices_Sort_int_int.calls (P0_ : Nat → Prop) (u9000_ : Value) (l0 r : List Int) (w0 w : World) (hB : Below w0.heap.size w0 w) (ho0 : Kd.R (Kd.int .i64) 3 w w0.heap.size P0_ u9000_ l0) (h : slices_Sort_int_int.f l0 = some r) :
    Calls Try.prog 31 #[u9000_] w fun e w' => e = .returned (.tuple #[]) ∧ Kd.R (Kd.int .i64) 3 w' w0.heap.size (fun k_ => (P0_ k_ ∨ w.heap.size ≤ k_)) u9000_ r ∧ Below w0.heap.size w0 w' ∧ Kept w w' (fun k_ => P0_ k_) := by
  unfold slices_Sort_int_int.f at h
  split at h
  case isFalse => cases h
  rename_i hlen
  obtain rfl := Option.some.inj h
  have ho := Kd.own_of_R (enc := Value.int .i64) (h1 := fun _ => rfl) ho0
  have hok := ho0.1
  rcases ho.2 with ⟨rfl, hn⟩ | ⟨g, cap, cur, hv, hg, hb, h1, h2, h3, h4⟩
  · obtain rfl : l0 = [] := List.length_eq_zero_iff.1 hn
    clear hlen
    refine (Any.slices_Sort_int_none Try.lays189 none 0 w).mono ?_
    rintro e w' ⟨rfl, rfl⟩
    exact ⟨rfl, Kd.R_nil _ _ _ _ _, hB, Kept.refl _ _⟩
  · subst hv
    have hE : encs (Value.int .i64) l0 = l0.map (Value.int .i64) := rfl
    rw [hE, Nat.mul_one] at h4
    have hH := holds_of_blockI hb h4
    have hlt : g < w.heap.size := own_lt ho g rfl
    refine (Any.slices_Sort_int Try.lays189 g 0 cap l0 w hH hlt hlen).mono ?_
    rintro e w' ⟨rfl, n, os, rfl⟩
    rw [mergeSort_isort]
    have hgr := grownBy_sortedI (w := w) (g := g) (n := n) (os := os) (isort l0).toArray
    have hown := ownsRow_sortedI (n := n) (os := os) (isort_length l0) hg hb h1 h2 h3
    refine ⟨rfl, ?_, hB.grown hgr hB.size (fun k hk => by injection hk with hk; omega), Kept.of_grown hgr (Kept.refl _ _) (fun k hk => .inl (hok k (by simpa [Value.ownBlock] using hk)))⟩
    have := Kd.R_of_own (enc := Value.int .i64) (h1 := fun _ => rfl) (ok := fun k_ => (P0_ k_ ∨ w.heap.size ≤ k_)) (xs := isort l0) (by rw [isort_length]; exact hown) (fun k hk => .inl (hok k hk))
    exact this

theorem slices_Compact_int_int.calls (P0_ : Nat → Prop) (u9000_ : Value) (l0 r : List Int) (w0 w : World) (hB : Below w0.heap.size w0 w) (ho0 : Kd.R (Kd.int .i64) 3 w w0.heap.size P0_ u9000_ l0) (h : slices_Compact_int_int.f l0 = some r) :
    Calls Try.prog 32 #[u9000_] w fun e w' => ∃ v0_ : Value, e = .returned v0_ ∧ Kd.R (Kd.int .i64) 3 w' w0.heap.size (fun k_ => (P0_ k_ ∨ w.heap.size ≤ k_)) v0_ r ∧ Below w0.heap.size w0 w' ∧ Kept w w' (fun k_ => P0_ k_) := by
  obtain rfl := Option.some.inj h
  have ho := Kd.own_of_R (enc := Value.int .i64) (h1 := fun _ => rfl) ho0
  have hok := ho0.1
  rcases ho.2 with ⟨rfl, hn⟩ | ⟨g, cap, cur, hv, hg, hb, h1, h2, h3, h4⟩
  · obtain rfl : l0 = [] := List.length_eq_zero_iff.1 hn
    refine (Any.slices_Compact_int_empty Try.lays20 none 0 w).mono ?_
    rintro e w' ⟨rfl, rfl⟩
    exact ⟨_, rfl, Kd.R_nil _ _ _ _ _, hB, Kept.refl _ _⟩
  · subst hv
    have hE : encs (Value.int .i64) l0 = l0.map (Value.int .i64) := rfl
    rw [hE, Nat.mul_one] at h4
    have hH := holds_of_blockI hb h4
    refine (Any.slices_Compact_int Try.lays20 g 0 cap l0 w hH (by unfold maxLen at h2; omega) h1).mono ?_
    rintro e w' ⟨rfl, n, rfl⟩
    rw [compact_dedup]
    have hle : (dedup l0).length ≤ l0.length := by rw [← compact_dedup]; unfold Lib.compact compactUpTo; rw [List.length_map]; exact Nat.le_trans (List.length_filter_le _ _) (by simp)
    generalize hL : (dedup l0 ++ List.replicate (l0.length - (dedup l0).length) 0) = L
    have hLl : L.length = l0.length := by rw [← hL]; simp; omega
    have hgr := grownBy_sortedI (w := w) (g := g) (n := n) (os := #[]) L.toArray
    have hown := ownsRow_sortedI (n := n) (os := #[]) hLl hg hb h1 h2 h3
    rw [grow_empty] at hgr hown
    refine ⟨_, rfl, ?_, hB.grown hgr hB.size (fun k hk => by injection hk with hk; omega), Kept.of_grown hgr (Kept.refl _ _) (fun k hk => .inl (hok k (by simpa [Value.ownBlock] using hk)))⟩
    refine Kd.R_of_own (enc := Value.int .i64) (h1 := fun _ => rfl) (ok := fun k_ => (P0_ k_ ∨ w.heap.size ≤ k_)) (xs := dedup l0) ?_ (fun k hk => .inl (hok k (by simpa [Value.ownBlock] using hk)))
    obtain ⟨_, hq⟩ := hown
    rcases hq with ⟨hq, _⟩ | ⟨g', cap', cur', hv, hg', hb', h1', h2', h3', h4'⟩
    · cases hq
    · injection hv with hv1 hv2 hv3
      injection hv1 with hv1
      injection hv1 with hv1 _ _
      subst hv1; subst hv3
      refine ⟨by simp [encs], .inr ⟨g, cap, cur', rfl, hg, hb', by omega, h2, h3', ?_⟩⟩
      rw [Nat.mul_one] at h4' ⊢
      have : cur'.toList.take (dedup l0).length = (cur'.toList.take l0.length).take (dedup l0).length := by rw [List.take_take, Nat.min_eq_left hle]
      rw [this, h4', ← hL, ← List.map_take, List.take_left']
      · rfl
      · rfl

theorem cells_of_C {w : World} {A : Option Addr} {l : List Int} (h : Kd.C (Kd.int .i64) w A l.length l) (hn : 0 < l.length) : ∃ b off, A = some ⟨b, off, none⟩ ∧ ∀ j, j < l.length → w.cell? ⟨b, off + j, none⟩ = some (.int .i64 (l.getD j 0)) := by
  obtain ⟨⟨b, off, p⟩, rfl, hc⟩ := h.2.2 hn
  have hall : ∀ j, j < l.length → w.cell? (Addr.add ⟨b, off, p⟩ j) = some (.int .i64 (l.getD j 0)) := by
    intro j hj
    obtain ⟨c, _, hr, hcell⟩ := hc j l[j] (by simp [hj])
    have hr' : c = [Value.int .i64 l[j]] := hr
    subst hr'
    have := hcell 0 _ rfl
    rw [show (Kd.int .i64).sz = 1 from rfl, Nat.mul_one, Nat.add_zero] at this
    rw [this, List.getD_eq_getElem?_getD, List.getElem?_eq_getElem hj]
    rfl
  cases p with
  | some q =>
    have := hall 0 hn
    simp [World.cell?, Addr.add] at this
    split at this <;> cases this
  | none =>
    refine ⟨b, off, rfl, fun j hj => ?_⟩
    have := hall j hj
    unfold Addr.add at this
    split at this
    · rename_i e; subst e; exact this
    · exact this
theorem mn_eq : mn = min := by
  funext a b
  unfold mn
  omega
theorem mx_eq : mx = max := by
  funext a b
  unfold mx
  omega

theorem slices_Min_int_int.calls (A0 : Option Addr) (c0 : Nat) (l0 : List Int) (r : Int) (w : World) (hr0 : Kd.C (Kd.int .i64) w A0 l0.length l0) (hc0 : l0.length ≤ c0) (h : slices_Min_int_int.f l0 = some r) :
    Calls Try.prog 39 #[.slice A0 l0.length c0] w fun e w' => e = .returned (.int .i64 r) ∧ Drawn0 w w' := by
  cases l0 with
  | nil => cases h
  | cons x xs =>
    obtain rfl := Option.some.inj h
    obtain ⟨b, off, rfl, hc⟩ := cells_of_C hr0 (by simp)
    refine (Any.slices_Min_int Try.lays114 b off (x :: xs).length c0 (x :: xs) w (by simp) (Nat.le_refl _) hr0.2.1 hc).mono ?_
    rintro e w' ⟨rfl, rfl⟩
    refine ⟨?_, Drawn0.refl _⟩
    rw [List.take_length, mn_eq]
    unfold Lib.minOf
    simp only [List.foldl_cons, List.headD_cons, Int.min_self]

theorem slices_Max_int_int.calls (A0 : Option Addr) (c0 : Nat) (l0 : List Int) (r : Int) (w : World) (hr0 : Kd.C (Kd.int .i64) w A0 l0.length l0) (hc0 : l0.length ≤ c0) (h : slices_Max_int_int.f l0 = some r) :
    Calls Try.prog 40 #[.slice A0 l0.length c0] w fun e w' => e = .returned (.int .i64 r) ∧ Drawn0 w w' := by
  cases l0 with
  | nil => cases h
  | cons x xs =>
    obtain rfl := Option.some.inj h
    obtain ⟨b, off, rfl, hc⟩ := cells_of_C hr0 (by simp)
    refine (Any.slices_Max_int Try.lays113 b off (x :: xs).length c0 (x :: xs) w (by simp) (Nat.le_refl _) hr0.2.1 hc).mono ?_
    rintro e w' ⟨rfl, rfl⟩
    refine ⟨?_, Drawn0.refl _⟩
    rw [List.take_length, mx_eq]
    unfold Lib.maxOf
    simp only [List.foldl_cons, List.headD_cons, Int.max_self]
end Go.Proofs.Ytdbleoijefihhaa.PEv
