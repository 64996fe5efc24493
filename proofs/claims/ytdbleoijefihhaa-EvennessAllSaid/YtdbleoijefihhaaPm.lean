/- Plain laws of sorted lists: members decide them; runs of equal elements. -/
import Derived.Test.YtdbleoijefihhaaPd
namespace Go.Proofs.Ytdbleoijefihhaa.PEv
open Go.RowKit Go.Proofs.YtdbleoijefihhaaW.PrintWords Go.Proofs.YtdbleoijefihhaaW.PrintLast Go.Proofs.YtdbleoijefihhaaW.PrintMore
set_option linter.unusedVariables false
set_option linter.unusedSimpArgs false

theorem strict_ext : ∀ {l m : List Int}, l.Pairwise (· < ·) → m.Pairwise (· < ·) → (∀ x, x ∈ l ↔ x ∈ m) → l = m
  | [], [], _, _, _ => rfl
  | [], y :: m, _, _, h => absurd ((h y).2 (by simp)) (by simp)
  | x :: l, [], _, _, h => absurd ((h x).1 (by simp)) (by simp)
  | x :: l, y :: m, h1, h2, h => by
    rw [List.pairwise_cons] at h1 h2
    have hxy : x = y := by
      have a := (h x).1 (by simp)
      have b := (h y).2 (by simp)
      rcases List.mem_cons.1 a with e | a
      · exact e
      rcases List.mem_cons.1 b with e | b
      · exact e.symm
      have c1 := h1.1 y b
      have c2 := h2.1 x a
      omega
    subst hxy
    rw [strict_ext h1.2 h2.2 (fun z => ⟨fun hz => ?_, fun hz => ?_⟩)]
    · have := (h z).1 (List.mem_cons_of_mem _ hz)
      rcases List.mem_cons.1 this with e | this
      · have := h1.1 z hz; omega
      · exact this
    · have := (h z).2 (List.mem_cons_of_mem _ hz)
      rcases List.mem_cons.1 this with e | this
      · have := h2.1 z hz; omega
      · exact this
theorem mem_dedup {α : Type} [DecidableEq α] : ∀ (l : List α) (x : α), x ∈ dedup l ↔ x ∈ l
  | [], x => by simp [dedup]
  | [y], x => by simp [dedup]
  | y :: z :: l, x => by
    have ih := mem_dedup (z :: l) x
    unfold dedup
    split
    · rename_i e
      subst e
      rw [ih]
      simp
    · rw [List.mem_cons, ih, List.mem_cons (a := x) (b := y)]
theorem dedup_strict : ∀ (l : List Int), l.Pairwise (· ≤ ·) → (dedup l).Pairwise (· < ·)
  | [], _ => by simp [dedup]
  | [_], _ => by simp [dedup]
  | y :: z :: l, h => by
    rw [List.pairwise_cons] at h
    have ih := dedup_strict (z :: l) h.2
    unfold dedup
    split
    · exact ih
    · rename_i e
      refine List.pairwise_cons.2 ⟨fun x hx => ?_, ih⟩
      have hx' := (mem_dedup (z :: l) x).1 hx
      have h1 := h.1 z (by simp)
      have hz : z ≤ x := by
        rcases List.mem_cons.1 hx' with e2 | hx'
        · omega
        · exact (List.pairwise_cons.1 h.2).1 x hx'
      omega
theorem mem_isort (l : List Int) (x : Int) : x ∈ isort l ↔ x ∈ l := (isort_perm l).mem_iff
theorem isort_of_perm {l m : List Int} (h : l.Perm m) : isort l = isort m := sorted_unique ((isort_perm l).trans (h.trans (isort_perm m).symm)) (isort_sorted l) (isort_sorted m)
theorem isort_strict {l : List Int} (h : l.Nodup) : (isort l).Pairwise (· < ·) := by
  have h1 := isort_sorted l
  have h2 : (isort l).Pairwise (· ≠ ·) := (isort_perm l).nodup_iff.2 h
  exact (h1.and h2).imp (fun {a b} h => by obtain ⟨h1, h2⟩ := h; omega)
theorem strict_nodup {l : List Int} (h : l.Pairwise (· < ·)) : l.Nodup := h.imp (fun {a b} h => by omega)
theorem isort_id {l : List Int} (h : l.Pairwise (· < ·)) : isort l = l := sorted_unique (isort_perm l) (isort_sorted l) (h.imp (fun {a b} h => by omega))
theorem nodup_map {l : List Int} {f : Int → Int} (h : l.Nodup) (hf : ∀ x ∈ l, ∀ y ∈ l, f x = f y → x = y) : (l.map f).Nodup := by
  induction l with
  | nil => simp
  | cons x l ih =>
    rw [List.nodup_cons] at h
    rw [List.map_cons, List.nodup_cons]
    refine ⟨fun hm => ?_, ih h.2 (fun a ha b hb => hf a (List.mem_cons_of_mem _ ha) b (List.mem_cons_of_mem _ hb))⟩
    obtain ⟨y, hy, e⟩ := List.mem_map.1 hm
    have := hf x (by simp) y (List.mem_cons_of_mem _ hy) e.symm
    subst this
    exact h.1 hy
end Go.Proofs.Ytdbleoijefihhaa.PEv
