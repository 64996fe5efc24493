/- For any n, any generator, and any number of notes and start, Generated returns the set of the multiples, or the first error: the call of the law EvennessGenerates answers true, for all values. -/
import Derived.Test.YtdbleoijefihhaaPg
import Derived.IntWalk
import Derived.WideKeyPair
namespace Go.Proofs.Ytdbleoijefihhaa.PEv
open Go.RowKit Go.Proofs.YtdbleoijefihhaaW.PrintWords Go.Proofs.YtdbleoijefihhaaW.PrintLast Go.Proofs.YtdbleoijefihhaaW.PrintMore
set_option linter.unusedVariables false
set_option linter.unusedSimpArgs false

theorem two_cells {w W w1 : World} {x0 x1 : Int} (hW : W = w.alloc (.cells #[.int .i64 x0, .int .i64 x1] 29)) (hb : Below W.heap.size W w1) : Below w.heap.size w w1 ∧ w1.cell? ⟨w.heap.size, 0, none⟩ = some (.int .i64 x0) ∧ w1.cell? ⟨w.heap.size, 1, none⟩ = some (.int .i64 x1) := by
  subst hW
  refine ⟨Below.trans (below_alloc (Below.refl _ _) _) (hb.mono (by simp)), (hb.cell (by simp)).trans (by simp), (hb.cell (by simp)).trans (by simp)⟩
theorem two_on {w W w1 : World} {x0 x1 : Int} (h : Below w.heap.size w W ∧ W.cell? ⟨w.heap.size, 0, none⟩ = some (.int .i64 x0) ∧ W.cell? ⟨w.heap.size, 1, none⟩ = some (.int .i64 x1)) (hb : Below W.heap.size W w1) : Below w.heap.size w w1 ∧ w1.cell? ⟨w.heap.size, 0, none⟩ = some (.int .i64 x0) ∧ w1.cell? ⟨w.heap.size, 1, none⟩ = some (.int .i64 x1) := by
  obtain ⟨h1, h2, h3⟩ := h
  have l2 : w.heap.size < W.heap.size := World.block_lt_of_cell? W _ h2
  exact ⟨below_step h1 hb, (hb.cell l2).trans h2, (hb.cell l2).trans h3⟩

set_option maxHeartbeats 8000000 in
set_option maxRecDepth 100000 in
theorem gen4_bad (n g x0 x1 : Int) (w : World)
    (h : decide (n < 1) = true ∨ (decide (n < 1) = false ∧ decide (60 < n) = true) ∨ (decide (n < 1) = false ∧ decide (60 < n) = false ∧ decide (x0 < 1) = true)
      ∨ (decide (n < 1) = false ∧ decide (60 < n) = false ∧ decide (x0 < 1) = false ∧ decide (n < x0) = true)
      ∨ (decide (n < 1) = false ∧ decide (60 < n) = false ∧ decide (x0 < 1) = false ∧ decide (n < x0) = false ∧ decide (g < 0) = true)
      ∨ (decide (n < 1) = false ∧ decide (60 < n) = false ∧ decide (x0 < 1) = false ∧ decide (n < x0) = false ∧ decide (g < 0) = false ∧ decide (n ≤ g) = true)
      ∨ (decide (n < 1) = false ∧ decide (60 < n) = false ∧ decide (x0 < 1) = false ∧ decide (n < x0) = false ∧ decide (g < 0) = false ∧ decide (n ≤ g) = false ∧ decide (x1 < 0) = true)
      ∨ (decide (n < 1) = false ∧ decide (60 < n) = false ∧ decide (x0 < 1) = false ∧ decide (n < x0) = false ∧ decide (g < 0) = false ∧ decide (n ≤ g) = false ∧ decide (x1 < 0) = false ∧ decide (n ≤ x1) = true)) :
    Calls Try.prog 4 #[.int .i64 n, .int .i64 g, .agg #[.int .i64 x0, .int .i64 x1]] w fun e w' => e = .returned (.bool true) ∧ Below w.heap.size w w' := by
  have hbad : n < 1 ∨ 60 < n ∨ x0 < 1 ∨ n < x0 ∨ g < 0 ∨ n ≤ g ∨ x1 < 0 ∨ n ≤ x1 := by simp only [decide_eq_true_eq] at h; omega
  have hG := Aside0.mk (generated_bad hbad (show 1 < 200 by omega))
  have hK := Aside0.mk (known_ge (show 100 ≤ 200 by omega))
  clear hbad
  rcases h with a1 | ⟨a1, a2⟩ | ⟨a1, a2, a3⟩ | ⟨a1, a2, a3, a4⟩ | ⟨a1, a2, a3, a4, a5⟩ | ⟨a1, a2, a3, a4, a5, a6⟩ | ⟨a1, a2, a3, a4, a5, a6, a7⟩ | ⟨a1, a2, a3, a4, a5, a6, a7, a8⟩
  all_goals
    go_enter Try.func4, Try.ntmps4
    go_wp2_with (first
      | (go_at_call 12; refine (schismalaw35_known.calls 200 true _ hK.out).mono ?_; rintro e w1 ⟨rfl, hb⟩; have HT := Aside0.mk (two_cells rfl hb); obtain ⟨_, hq0, hq1⟩ := two_cells rfl hb; clear hb)
      | (go_at_call 15; refine (evenness_Generated.calls 200 n g x0 x1 [] 3 _ hG.out).mono ?_; rintro e w2 ⟨v0, rfl, hR, hb⟩; have HT2 := Aside0.mk (two_on HT.out hb); obtain ⟨_, hq2, hq3⟩ := HT2.out; clear hq0 hq1 hb; obtain ⟨A0, c0, e0⟩ := Kd.R_slice hR; subst e0; clear hR))
    go_ret
    exact ⟨by first | rfl | simp, HT2.out.1⟩

set_option maxHeartbeats 8000000 in
set_option maxRecDepth 100000 in
theorem gen4_good (n g x0 x1 : Int) (w : World)
    (a1 : decide (n < 1) = false) (a2 : decide (60 < n) = false) (a3 : decide (x0 < 1) = false) (a4 : decide (n < x0) = false) (a5 : decide (g < 0) = false) (a6 : decide (n ≤ g) = false) (a7 : decide (x1 < 0) = false) (a8 : decide (n ≤ x1) = false) :
    Calls Try.prog 4 #[.int .i64 n, .int .i64 g, .agg #[.int .i64 x0, .int .i64 x1]] w fun e w' => e = .returned (.bool true) ∧ Below w.heap.size w w' := by
  have hb1 : 1 ≤ n ∧ n ≤ 60 ∧ 1 ≤ x0 ∧ x0 ≤ n ∧ 0 ≤ g ∧ g < n ∧ 0 ≤ x1 ∧ x1 < n := by simp only [decide_eq_false_iff_not] at *; omega
  obtain ⟨i1, i2, i3, i4, i5, i6, i7, i8⟩ := hb1
  have hG := generated_ok (k := 200) i1 i2 i3 i4 i5 i6 i7 i8 (by omega)
  have hL := lgenerated_ok (k := 200) (g := g) (s := x1) i1 i2 i3 i4 (by omega)
  have hK := Aside0.mk (known_ge (show 100 ≤ 200 by omega))
  have hlen : ∀ l, chain n g x1 x0.toNat 0 [] = some l → l.length ≤ 60 := fun l h => by have := chain_length _ _ _ _ h; simp at this; omega
  clear i1 i2 i3 i4 i5 i6 i7 i8
  cases hc : chain n g x1 x0.toNat 0 [] with
  | none =>
    rw [hc] at hG hL
    have HG := Aside0.mk hG
    have HL := Aside0.mk hL
    clear hG hL hlen hc
    go_enter Try.func4, Try.ntmps4
    go_wp2_with (first
      | (go_at_call 12; refine (schismalaw35_known.calls 200 true _ hK.out).mono ?_; rintro e w1 ⟨rfl, hb⟩; have HT := Aside0.mk (two_cells rfl hb); obtain ⟨_, hq0, hq1⟩ := two_cells rfl hb; clear hb)
      | (go_at_call 15; refine (evenness_Generated.calls 200 n g x0 x1 [] 14 _ HG.out).mono ?_; rintro e w2 ⟨v0, rfl, hR, hb⟩; have HT2 := Aside0.mk (two_on HT.out hb); obtain ⟨_, hq2, hq3⟩ := HT2.out; clear hq0 hq1 hb; obtain ⟨A0, c0, e0⟩ := Kd.R_slice hR; subst e0; clear hR)
      | (go_at_call 16; refine (schismalaw35_generated.calls 200 n g x0 x1 [] false _ HL.out).mono ?_; rintro e w3 ⟨v1, rfl, hR, hb⟩; have HT3 := Aside0.mk (two_on HT2.out hb); clear hq2 hq3 hb hR))
    go_ret
    exact ⟨by first | rfl | simp, HT3.out.1⟩
  | some l =>
    rw [hc] at hG hL
    have HG := Aside0.mk hG
    have HL := Aside0.mk hL
    have HE := Aside0.mk (equal_f l l (by have := hlen l hc; omega))
    rw [decide_eq_true (rfl : l = l)] at HE
    clear hG hL hlen hc
    go_enter Try.func4, Try.ntmps4
    go_wp2_with (first
      | (go_at_call 12; refine (schismalaw35_known.calls 200 true _ hK.out).mono ?_; rintro e w1 ⟨rfl, hb⟩; have HT := Aside0.mk (two_cells rfl hb); obtain ⟨_, hq0, hq1⟩ := two_cells rfl hb; clear hb)
      | (go_at_call 15; refine (evenness_Generated.calls 200 n g x0 x1 l 0 _ HG.out).mono ?_; rintro e w2 ⟨v0, rfl, hR, hb⟩; have HT2 := Aside0.mk (two_on HT.out hb); obtain ⟨_, hq2, hq3⟩ := HT2.out; clear hq0 hq1 hb; obtain ⟨A0, c0, e0⟩ := Kd.R_slice hR; subst e0; have HR0 := Aside0.mk (Kd.R_reads' hR); clear hR)
      | (go_at_call 16; refine (schismalaw35_generated.calls 200 n g x0 x1 l true _ HL.out).mono ?_; rintro e w3 ⟨v1, rfl, hR, hb⟩; have HT3 := Aside0.mk (two_on HT2.out hb); have HRX := Aside0.mk (Kd.C_below HR0.out.2.2 hb); clear hq2 hq3 hb; obtain ⟨A1, c1, e1⟩ := Kd.R_slice hR; subst e1; have HR1 := Aside0.mk (Kd.R_reads' hR); clear hR)
      | (go_at_call 14; refine (slices_Equal_int_int.calls (l.length + 1) A0 _ l A1 _ l true _ HRX.out HR0.out.2.1 HR1.out.2.2 HR1.out.2.1 HE.out).mono ?_; rintro e w4 ⟨rfl, ⟨nd, rfl⟩⟩))
    go_ret
    exact ⟨by first | rfl | simp, pw_below_drewN HT3.out.1 _⟩

theorem gen4 (n g x0 x1 : Int) (w : World) :
    Calls Try.prog 4 #[.int .i64 n, .int .i64 g, .agg #[.int .i64 x0, .int .i64 x1]] w fun e w' => e = .returned (.bool true) ∧ Below w.heap.size w w' := by
  by_cases a1 : n < 1
  · exact gen4_bad n g x0 x1 w (.inl (decide_eq_true a1))
  by_cases a2 : 60 < n
  · exact gen4_bad n g x0 x1 w (.inr (.inl ⟨decide_eq_false a1, decide_eq_true a2⟩))
  by_cases a3 : x0 < 1
  · exact gen4_bad n g x0 x1 w (.inr (.inr (.inl ⟨decide_eq_false a1, decide_eq_false a2, decide_eq_true a3⟩)))
  by_cases a4 : n < x0
  · exact gen4_bad n g x0 x1 w (.inr (.inr (.inr (.inl ⟨decide_eq_false a1, decide_eq_false a2, decide_eq_false a3, decide_eq_true a4⟩))))
  by_cases a5 : g < 0
  · exact gen4_bad n g x0 x1 w (.inr (.inr (.inr (.inr (.inl ⟨decide_eq_false a1, decide_eq_false a2, decide_eq_false a3, decide_eq_false a4, decide_eq_true a5⟩)))))
  by_cases a6 : n ≤ g
  · exact gen4_bad n g x0 x1 w (.inr (.inr (.inr (.inr (.inr (.inl ⟨decide_eq_false a1, decide_eq_false a2, decide_eq_false a3, decide_eq_false a4, decide_eq_false a5, decide_eq_true a6⟩))))))
  by_cases a7 : x1 < 0
  · exact gen4_bad n g x0 x1 w (.inr (.inr (.inr (.inr (.inr (.inr (.inl ⟨decide_eq_false a1, decide_eq_false a2, decide_eq_false a3, decide_eq_false a4, decide_eq_false a5, decide_eq_false a6, decide_eq_true a7⟩)))))))
  by_cases a8 : n ≤ x1
  · exact gen4_bad n g x0 x1 w (.inr (.inr (.inr (.inr (.inr (.inr (.inr ⟨decide_eq_false a1, decide_eq_false a2, decide_eq_false a3, decide_eq_false a4, decide_eq_false a5, decide_eq_false a6, decide_eq_false a7, decide_eq_true a8⟩)))))))
  exact gen4_good n g x0 x1 w (decide_eq_false a1) (decide_eq_false a2) (decide_eq_false a3) (decide_eq_false a4) (decide_eq_false a5) (decide_eq_false a6) (decide_eq_false a7) (decide_eq_false a8)

/-- In the form that the row takes: no rounds are counted. -/
theorem gen4_calls (k : Nat) (n g x0 x1 : Int) (r : Bool) (w : World) (h : r = true) :
    Calls Try.prog 4 #[.int .i64 n, .int .i64 g, .agg #[.int .i64 x0, .int .i64 x1]] w fun e w' => e = .returned (.bool r) ∧ Below w.heap.size w w' := by
  subst h
  exact gen4 n g x0 x1 w
theorem gen4_pure (n g x0 x1 : Int) (_ : (Lit.int .i64 n).wf = true) (_ : (Lit.int .i64 g).wf = true) (_ : (Lit.int .i64 x0).wf = true) (_ : (Lit.int .i64 x1).wf = true) : ∃ _ : Nat, true = true := ⟨0, rfl⟩
theorem arrKey29 : Go.WideMaps.ArrKey Try.prog 29 3 2 := ⟨Try.underlying29, by kernel_rfl, by kernel_rfl, by kernel_rfl⟩
end Go.Proofs.Ytdbleoijefihhaa.PEv
