-- Written for this claim by a program of this session (myprint.py).
import Derived.Test.YtdbleoijefihhaaPEvx0
import Derived.Test.YtdbleoijefihhaaPEvx2
import Derived.Test.YtdbleoijefihhaaPEvx3
import Derived.Test.YtdbleoijefihhaaHa
import Derived.Test.YtdbleoijefihhaaHc
namespace Go.Proofs.Ytdbleoijefihhaa.PEv
open Go.RowKit Go.Proofs.YtdbleoijefihhaaW.PrintWords Go.Proofs.YtdbleoijefihhaaW.PrintLast Go.Proofs.YtdbleoijefihhaaW.PrintMore
attribute [local go_sem] max2_int min2_int max_two min_two max_three min_three max_four min_four   -- for this text's walks alone
set_option linter.unusedVariables false
set_option linter.unusedSimpArgs false

/-! ### evenness_Generated: function 15 -/
mutual
def evenness_Generated.j0 : Nat → Int → Int → Int → Int → Bool → Option (List Int × Int)
  | 0, _, _, _, _, _ => none
  | k + 1, x0, x1, x2, x3, x43 => if x43 = true then (some (([] : List Int), 3)) else (evenness_Generated.l0 k x0 x1 x3 ([] : List Int) x2 0)
def evenness_Generated.l0 : Nat → Int → Int → Int → List Int → Int → Int → Option (List Int × Int)
  | 0, _, _, _, _, _, _ => none
  | k + 1, x0, x1, x3, x11, x44, x45 => if x45 < x44 then (if x0 = 0 then (none) else ((slices_Contains_int_int.f k x11 (Int.tmod (wrap64 (x3 + (wrap64 (x45 * x1)))) x0)).bind fun t110 => (if t110 = true then (some (([] : List Int), 14)) else (if x11.length < 17592186044416 then (evenness_Generated.l0 k x0 x1 x3 (x11 ++ [Int.tmod (wrap64 (x3 + (wrap64 (x45 * x1)))) x0]) x44 (wrap64 (x45 + 1))) else (none))))) else ((slices_Sort_int_int.f x11).bind fun t114 => (some (t114, 0)))
end
def evenness_Generated.f (k : Nat) (a0 : Int) (a1 : Int) (a2 : Int) (a3 : Int) : Option (List Int × Int) := (evenness_division.f a0).bind fun t109 => (if t109 = 0 then (if a2 < 1 then (evenness_Generated.j0 k a0 a1 a2 a3 true) else (if a2 > a0 then (evenness_Generated.j0 k a0 a1 a2 a3 true) else (if a1 < 0 then (evenness_Generated.j0 k a0 a1 a2 a3 true) else (if a1 ≥ a0 then (evenness_Generated.j0 k a0 a1 a2 a3 true) else (if a3 < 0 then (evenness_Generated.j0 k a0 a1 a2 a3 true) else (evenness_Generated.j0 k a0 a1 a2 a3 (decide (a3 ≥ a0)))))))) else (some (([] : List Int), t109)))
theorem evenness_Generated.mono_l : ∀ k, (∀ y0 y1 y2 y3 y4, LeO (evenness_Generated.j0 k y0 y1 y2 y3 y4) (evenness_Generated.j0 (k + 1) y0 y1 y2 y3 y4)) ∧ (∀ y0 y1 y2 y3 y4 y5, LeO (evenness_Generated.l0 k y0 y1 y2 y3 y4 y5) (evenness_Generated.l0 (k + 1) y0 y1 y2 y3 y4 y5))
  | 0 => ⟨fun _ _ _ _ _ r h => by simp [evenness_Generated.j0] at h, fun _ _ _ _ _ _ r h => by simp [evenness_Generated.l0] at h⟩
  | k + 1 => by
    obtain ⟨ih0, ih1⟩ := evenness_Generated.mono_l k
    refine ⟨?_, ?_⟩
    · intro y0 y1 y2 y3 y4
      unfold evenness_Generated.j0
      repeat' first
      | (with_reducible exact ih0 _ _ _ _ _)
      | (with_reducible exact ih1 _ _ _ _ _ _)
      | (with_reducible exact slices_Contains_int_int.mono _ _ _)
      | (with_reducible exact LeO.refl _)
      | (with_reducible exact LeO.none _)
      | (with_reducible refine LeO.ite ?_ ?_)
      | (with_reducible refine LeO.bind ?_ (fun _ => ?_))
      | exact ih0 _ _ _ _ _
      | exact ih1 _ _ _ _ _ _
      | exact slices_Contains_int_int.mono _ _ _
      | exact LeO.none _
      | refine LeO.ite ?_ ?_
      | refine LeO.bind ?_ (fun _ => ?_)
    · intro y0 y1 y2 y3 y4 y5
      unfold evenness_Generated.l0
      repeat' first
      | (with_reducible exact ih0 _ _ _ _ _)
      | (with_reducible exact ih1 _ _ _ _ _ _)
      | (with_reducible exact slices_Contains_int_int.mono _ _ _)
      | (with_reducible exact LeO.refl _)
      | (with_reducible exact LeO.none _)
      | (with_reducible refine LeO.ite ?_ ?_)
      | (with_reducible refine LeO.bind ?_ (fun _ => ?_))
      | exact ih0 _ _ _ _ _
      | exact ih1 _ _ _ _ _ _
      | exact slices_Contains_int_int.mono _ _ _
      | exact LeO.none _
      | refine LeO.ite ?_ ?_
      | refine LeO.bind ?_ (fun _ => ?_)
theorem evenness_Generated.mono : ∀ a0 a1 a2 a3 k, LeO (evenness_Generated.f k a0 a1 a2 a3) (evenness_Generated.f (k + 1) a0 a1 a2 a3) := by
  intro a0 a1 a2 a3 k
  obtain ⟨ih0, ih1⟩ := evenness_Generated.mono_l k
  unfold evenness_Generated.f
  repeat' first
      | (with_reducible exact ih0 _ _ _ _ _)
      | (with_reducible exact ih1 _ _ _ _ _ _)
      | (with_reducible exact slices_Contains_int_int.mono _ _ _)
      | (with_reducible exact LeO.refl _)
      | (with_reducible exact LeO.none _)
      | (with_reducible refine LeO.ite ?_ ?_)
      | (with_reducible refine LeO.bind ?_ (fun _ => ?_))
      | exact ih0 _ _ _ _ _
      | exact ih1 _ _ _ _ _ _
      | exact slices_Contains_int_int.mono _ _ _
      | exact LeO.none _
      | refine LeO.ite ?_ ?_
      | refine LeO.bind ?_ (fun _ => ?_)
set_option maxHeartbeats 8000000 in
set_option maxRecDepth 100000 in
theorem evenness_Generated.calls (k : Nat) (a0 : Int) (a1 : Int) (a2 : Int) (a3 : Int) (r1 : List Int) (r2 : Int) (w : World) (h : evenness_Generated.f k a0 a1 a2 a3 = some (r1, r2)) :
    Calls Try.prog 15 #[.int .i64 a0, .int .i64 a1, .int .i64 a2, .int .i64 a3] w fun e w' => ∃ v0_ : Value, e = .returned (.tuple #[v0_, .int .i64 r2]) ∧ Kd.R (Kd.int .i64) 3 w' w.heap.size (fun _ => True) v0_ r1 ∧ Below w.heap.size w w' := by
  have HB := Aside0.mk (Below.refl w.heap.size w)
  have H : ((evenness_division.f a0).bind fun t109 => (if t109 = 0 then (if a2 < 1 then (evenness_Generated.j0 k a0 a1 a2 a3 true) else (if a2 > a0 then (evenness_Generated.j0 k a0 a1 a2 a3 true) else (if a1 < 0 then (evenness_Generated.j0 k a0 a1 a2 a3 true) else (if a1 ≥ a0 then (evenness_Generated.j0 k a0 a1 a2 a3 true) else (if a3 < 0 then (evenness_Generated.j0 k a0 a1 a2 a3 true) else (evenness_Generated.j0 k a0 a1 a2 a3 (decide (a3 ≥ a0)))))))) else (some (([] : List Int), t109)))) = some (r1, r2) := h
  clear h
  replace H := Option.bind_eq_some_iff.mp H
  obtain ⟨t109, A50, H⟩ := H
  replace H : (if t109 = 0 then (if a2 < 1 then (evenness_Generated.j0 k a0 a1 a2 a3 true) else (if a2 > a0 then (evenness_Generated.j0 k a0 a1 a2 a3 true) else (if a1 < 0 then (evenness_Generated.j0 k a0 a1 a2 a3 true) else (if a1 ≥ a0 then (evenness_Generated.j0 k a0 a1 a2 a3 true) else (if a3 < 0 then (evenness_Generated.j0 k a0 a1 a2 a3 true) else (evenness_Generated.j0 k a0 a1 a2 a3 (decide (a3 ≥ a0)))))))) else (some (([] : List Int), t109))) = some (r1, r2) := H
  have A5 := Aside0.mk A50
  clear A50
  by_cases c6 : t109 = 0
  · rw [if_pos c6] at H
    have c6b0 : (t109 == 0) = true := beq_iff_eq.mpr c6
    have c6b1 : (t109 != 0) = false := bne_eq_false_iff_eq.mpr c6
    clear c6
    have HC7 := Aside0.mk H
    clear H
    go_enter Try.func15, Try.ntmps15
    go_upto_region 4 with (first | ((with_reducible refine gate_callee (f := 38) rfl ?_); refine goesL_ (some 15) rfl rfl Try.func38 (by kernel_rfl) rfl #[.int .i64 a0] rfl (by (try simp only [List.map_toArray, List.map_cons, List.map_nil]); first | done | rfl | (simp only [List.length_drop, List.length_take]; rfl)) ?_; (with_reducible refine (evenness_division.calls a0 t109 _ A5.out).mono ?_); rintro e w' ⟨rfl, ⟨nd, rfl⟩⟩; refine ⟨_, rfl, ?_⟩))
    (try simp only [Act.put, List.setIfInBounds_toArray, List.set_cons_zero, List.set_cons_succ])
    go_cut [43] (fun v43 wc => ∃ (kq : Nat) (x43_6 : Bool), v43 = .bool x43_6 ∧ Aside0 (evenness_Generated.j0 kq a0 a1 a2 a3 x43_6 = some (r1, r2)) ∧ Aside0 (kq ≤ k) ∧ Aside0 (Below w.heap.size w wc))
    case first =>
      have H := HC7.out
      clear HC7
      by_cases c8 : a2 < 1
      · rw [if_pos c8] at H
        have c8b0 : decide (a2 < 1) = true := decide_eq_true c8
        clear c8
        (first | rw [c8b0] | (simp only [i64_w, i32_w]; rw [c8b0]) | skip)
        have H' := Aside0.mk H
        clear H
        go_wp2
        go_meet
        case rel => exact ⟨_, (true), (by first | rfl | (simp; done) | (simp [*]; done)), H', ⟨by first | omega | exact Nat.le_refl _⟩, ⟨by repeat (first | (with_reducible first | exact HB.out | apply below_alloc | apply pw_below_drewN | apply below_drew1) | exact HB.out)⟩⟩
      · rw [if_neg c8] at H
        have c8b0 : decide (a2 < 1) = false := decide_eq_false c8
        clear c8
        (first | rw [c8b0] | (simp only [i64_w, i32_w]; rw [c8b0]) | skip)
        by_cases c9 : a2 > a0
        · rw [if_pos c9] at H
          have c9b0 : decide (a0 < a2) = true := decide_eq_true c9
          clear c9
          have H' := Aside0.mk H
          clear H
          go_wp2
          go_meet
          case rel => exact ⟨_, (true), (by first | rfl | (simp; done) | (simp [*]; done)), H', ⟨by first | omega | exact Nat.le_refl _⟩, ⟨by repeat (first | (with_reducible first | exact HB.out | apply below_alloc | apply pw_below_drewN | apply below_drew1) | exact HB.out)⟩⟩
        · rw [if_neg c9] at H
          have c9b0 : decide (a0 < a2) = false := decide_eq_false c9
          clear c9
          by_cases c10 : a1 < 0
          · rw [if_pos c10] at H
            have c10b0 : decide (a1 < 0) = true := decide_eq_true c10
            clear c10
            have H' := Aside0.mk H
            clear H
            go_wp2
            go_meet
            case rel => exact ⟨_, (true), (by first | rfl | (simp; done) | (simp [*]; done)), H', ⟨by first | omega | exact Nat.le_refl _⟩, ⟨by repeat (first | (with_reducible first | exact HB.out | apply below_alloc | apply pw_below_drewN | apply below_drew1) | exact HB.out)⟩⟩
          · rw [if_neg c10] at H
            have c10b0 : decide (a1 < 0) = false := decide_eq_false c10
            clear c10
            by_cases c11 : a1 ≥ a0
            · rw [if_pos c11] at H
              have c11b0 : decide (a0 ≤ a1) = true := decide_eq_true c11
              clear c11
              have H' := Aside0.mk H
              clear H
              go_wp2
              go_meet
              case rel => exact ⟨_, (true), (by first | rfl | (simp; done) | (simp [*]; done)), H', ⟨by first | omega | exact Nat.le_refl _⟩, ⟨by repeat (first | (with_reducible first | exact HB.out | apply below_alloc | apply pw_below_drewN | apply below_drew1) | exact HB.out)⟩⟩
            · rw [if_neg c11] at H
              have c11b0 : decide (a0 ≤ a1) = false := decide_eq_false c11
              clear c11
              by_cases c12 : a3 < 0
              · rw [if_pos c12] at H
                have c12b0 : decide (a3 < 0) = true := decide_eq_true c12
                clear c12
                have H' := Aside0.mk H
                clear H
                go_wp2
                go_meet
                case rel => exact ⟨_, (true), (by first | rfl | (simp; done) | (simp [*]; done)), H', ⟨by first | omega | exact Nat.le_refl _⟩, ⟨by repeat (first | (with_reducible first | exact HB.out | apply below_alloc | apply pw_below_drewN | apply below_drew1) | exact HB.out)⟩⟩
              · rw [if_neg c12] at H
                have c12b0 : decide (a3 < 0) = false := decide_eq_false c12
                clear c12
                have H' := Aside0.mk H
                clear H
                go_wp2
                go_meet
                case rel => exact ⟨_, (decide (a3 ≥ a0)), (by first | rfl | (simp; done) | (simp [*]; done)), H', ⟨by first | omega | exact Nat.le_refl _⟩, ⟨by repeat (first | (with_reducible first | exact HB.out | apply below_alloc | apply pw_below_drewN | apply below_drew1) | exact HB.out)⟩⟩
    case rest =>
      clear HC7
      try clear c1
      try clear p2
      try clear c3
      try clear c6
      try clear c6b0
      try clear c6b1
      try clear c8
      try clear c8b0
      try clear c9
      try clear c9b0
      try clear c10
      try clear c10b0
      try clear c11
      try clear c11b0
      try clear c12
      try clear c12b0
      obtain ⟨kq, x43_6, rfl, HA, HJ6, HB⟩ := hcut
      cases kq with
      | zero => exact absurd HA.out (by simp [evenness_Generated.j0])
      | succ kj6 =>
        have H := HA.out
        clear HA
        simp only [evenness_Generated.j0] at H
        by_cases c13 : x43_6 = true
        · subst c13
          have H1 : (some (([] : List Int), 3)) = some (r1, r2) := by rw [if_pos rfl] at H; exact H
          clear H
          have H := H1
          clear H1
          simp only [Option.some.injEq, Prod.mk.injEq] at H
          obtain ⟨rfl, rfl⟩ := H
          go_wp2
          go_ret2
          exact ⟨_, by first | rfl | (simp [errW_none, errW_some] <;> rfl) | (simp [*, errW_none, errW_some] <;> rfl), by first | exact Kd.R_nil _ _ _ _ _ | exact Kd.N_nil _ _ _ _ _ | exact Kd.V_nil _ _ _ _ _ | exact Kd.Q_nil _ _ _ _ _ | exact Kd.S_nil _ _ _ _ _, by repeat (first | (with_reducible first | exact HB.out | apply below_alloc | apply pw_below_drewN | apply below_drew1) | exact HB.out)⟩
        · replace c13 := Bool.eq_false_iff.mpr c13
          subst c13
          have H1 : (evenness_Generated.l0 kj6 a0 a1 a3 ([] : List Int) a2 0) = some (r1, r2) := by rw [if_neg (show ¬ (false = true) by decide)] at H; exact H
          clear H
          have H := H1
          clear H1
          have H' := Aside0.mk H
          clear H
          go_wp2
          go_loopg [11, 45] kj6 (fun kq v11 v45 w' => ∃ (x11_2 : List Int) (x45_2 : Int), v45 = .int .i64 x45_2 ∧ Aside0 (evenness_Generated.l0 kq a0 a1 a3 x11_2 a2 x45_2 = some (r1, r2)) ∧ Aside0 (kq ≤ kj6) ∧ Aside0 (Kd.R (Kd.int .i64) 3 w' w.heap.size (fun _ => True) v11 x11_2) ∧ Aside0 (Below w.heap.size w w'))
          case atStart => exact ⟨(([] : List Int)), (0), (by first | rfl | (simp; done) | (simp [*]; done)), H', ⟨Nat.le_refl _⟩, ⟨by first | exact Kd.R_nil _ _ _ _ _ | exact Kd.N_nil _ _ _ _ _ | exact Kd.V_nil _ _ _ _ _ | exact Kd.Q_nil _ _ _ _ _ | exact Kd.S_nil _ _ _ _ _⟩, ⟨by repeat (first | (with_reducible first | exact HB.out | apply below_alloc | apply pw_below_drewN | apply below_drew1) | exact HB.out)⟩⟩
          case round =>
            clear H'
            try clear c1
            try clear p2
            try clear c3
            try clear c6
            try clear c6b0
            try clear c6b1
            try clear c8
            try clear c8b0
            try clear c9
            try clear c9b0
            try clear c10
            try clear c10b0
            try clear c11
            try clear c11b0
            try clear c12
            try clear c12b0
            try clear c13
            try clear p2
            obtain ⟨x11_2, x45_2, rfl, HA, HK2, HO_11, HB⟩ := hrel
            cases gk with
            | zero => exact absurd HA.out (by simp [evenness_Generated.l0])
            | succ k2 =>
              have H := HA.out
              clear HA
              simp only [evenness_Generated.l0] at H
              by_cases c14 : x45_2 < a2
              · rw [if_pos c14] at H
                have c14b0 : decide (x45_2 < a2) = true := decide_eq_true c14
                clear c14
                by_cases c15 : a0 = 0
                · rw [if_pos c15] at H
                  exact absurd H (by simp)
                · rw [if_neg c15] at H
                  have c15b0 : (a0 == 0) = false := beq_eq_false_iff_ne.mpr c15
                  have c15b1 : (a0 != 0) = true := bne_iff_ne.mpr c15
                  replace H := Option.bind_eq_some_iff.mp H
                  obtain ⟨t110, A160, H⟩ := H
                  replace H : (if t110 = true then (some (([] : List Int), 14)) else (if x11_2.length < 17592186044416 then (evenness_Generated.l0 k2 a0 a1 a3 (x11_2 ++ [Int.tmod (wrap64 (a3 + (wrap64 (x45_2 * a1)))) a0]) a2 (wrap64 (x45_2 + 1))) else (none))) = some (r1, r2) := H
                  have A16 := Aside0.mk A160
                  clear A160
                  by_cases c17 : t110 = true
                  · subst c17
                    have H1 : (some (([] : List Int), 14)) = some (r1, r2) := by rw [if_pos rfl] at H; exact H
                    clear H
                    have H := H1
                    clear H1
                    simp only [Option.some.injEq, Prod.mk.injEq] at H
                    obtain ⟨rfl, rfl⟩ := H
                    obtain ⟨Ao18, co18, eo18⟩ := Kd.R_slice HO_11.out
                    subst eo18
                    go_wp2_with (first | ((with_reducible refine gate_callee (f := 33) rfl ?_); refine goesL_ (some 57) rfl rfl Try.func33 (by kernel_rfl) rfl #[.slice Ao18 x11_2.length co18, .int .i64 (Int.tmod (wrap64 (a3 + (wrap64 (x45_2 * a1)))) a0)] rfl (by (try simp only [List.map_toArray, List.map_cons, List.map_nil]); first | done | rfl | (simp only [List.length_drop, List.length_take]; rfl)) ?_; (with_reducible refine (slices_Contains_int_int.calls k2 _ _ x11_2 (Int.tmod (wrap64 (a3 + (wrap64 (x45_2 * a1)))) a0) true _ ?side1 ?side2 A16.out).mono ?_); (case side1 => repeat (first | exact (Kd.R_reads' HO_11.out).2.2 | (with_reducible refine Kd.C_alloc ?_ _) | (with_reducible refine Kd.C_drewN ?_ _) | (with_reducible refine Kd.C_drew ?_))); (case side2 => exact (Kd.R_reads' HO_11.out).2.1); rintro e w' ⟨rfl, ⟨nd, rfl⟩⟩; refine ⟨_, rfl, ?_⟩))
                    go_ret2
                    exact ⟨_, by first | rfl | (simp [errW_none, errW_some] <;> rfl) | (simp [*, errW_none, errW_some] <;> rfl), by first | exact Kd.R_nil _ _ _ _ _ | exact Kd.N_nil _ _ _ _ _ | exact Kd.V_nil _ _ _ _ _ | exact Kd.Q_nil _ _ _ _ _ | exact Kd.S_nil _ _ _ _ _, by repeat (first | (with_reducible first | exact HB.out | apply below_alloc | apply pw_below_drewN | apply below_drew1) | exact HB.out)⟩
                  · replace c17 := Bool.eq_false_iff.mpr c17
                    subst c17
                    have H1 : (if x11_2.length < 17592186044416 then (evenness_Generated.l0 k2 a0 a1 a3 (x11_2 ++ [Int.tmod (wrap64 (a3 + (wrap64 (x45_2 * a1)))) a0]) a2 (wrap64 (x45_2 + 1))) else (none)) = some (r1, r2) := by rw [if_neg (show ¬ (false = true) by decide)] at H; exact H
                    clear H
                    have H := H1
                    clear H1
                    by_cases c19 : x11_2.length < 17592186044416
                    · rw [if_pos c19] at H
                      have LMc19 := Aside0.mk c19
                      clear c19
                      obtain ⟨y111, hy111⟩ : ∃ y_ : List Int, y_ = (x11_2 ++ [Int.tmod (wrap64 (a3 + (wrap64 (x45_2 * a1)))) a0]) := ⟨_, rfl⟩
                      replace H : (evenness_Generated.l0 k2 a0 a1 a3 y111 a2 (wrap64 (x45_2 + 1))) = some (r1, r2) := by first | (rw [hy111]; with_reducible exact H) | (have H2_ := (Option.bind_some _ _).symm.trans H; rw [hy111]; with_reducible exact H2_) | (have H2_ := (Option.bind_some _ _).symm.trans H; with_reducible exact H2_) | with_reducible exact H | (rw [hy111]; exact H) | exact H
                      have Ny111 := Aside0.mk hy111
                      clear hy111
                      have H' := Aside0.mk H
                      clear H
                      obtain ⟨Ao20, co20, eo20⟩ := Kd.R_slice HO_11.out
                      subst eo20
                      go_wp2_with (first | ((with_reducible refine gate_callee (f := 33) rfl ?_); refine goesL_ (some 57) rfl rfl Try.func33 (by kernel_rfl) rfl #[.slice Ao20 x11_2.length co20, .int .i64 (Int.tmod (wrap64 (a3 + (wrap64 (x45_2 * a1)))) a0)] rfl (by (try simp only [List.map_toArray, List.map_cons, List.map_nil]); first | done | rfl | (simp only [List.length_drop, List.length_take]; rfl)) ?_; (with_reducible refine (slices_Contains_int_int.calls k2 _ _ x11_2 (Int.tmod (wrap64 (a3 + (wrap64 (x45_2 * a1)))) a0) false _ ?side1 ?side2 A16.out).mono ?_); (case side1 => repeat (first | exact (Kd.R_reads' HO_11.out).2.2 | (with_reducible refine Kd.C_alloc ?_ _) | (with_reducible refine Kd.C_drewN ?_ _) | (with_reducible refine Kd.C_drew ?_))); (case side2 => exact (Kd.R_reads' HO_11.out).2.1); rintro e w' ⟨rfl, ⟨nd, rfl⟩⟩; refine ⟨_, rfl, ?_⟩) | ((with_reducible refine gate_builtin (b := .append) (xs := #[.tmp 58, .tmp 60]) rfl ?_); at_builtin; refine Kd.R_append (Kd.int .i64) (w0 := w) w.heap.size rfl (.tmp 58) (.tmp 60) 23 3 (.int .i64 0) 8 rfl Try.underlying23 info3 rfl (by decide) (by omega) (.slice Ao20 x11_2.length co20) x11_2 (Int.tmod (wrap64 (a3 + (wrap64 (x45_2 * a1)))) a0) [.int .i64 (Int.tmod (wrap64 (a3 + (wrap64 (x45_2 * a1)))) a0)] (fun _ => True) (fun _ => False) rfl rfl ?aP (fun _ hk => hk.elim) ?aF ?aO ?aB ?aS ?aL ?_; (case aP => exact rfl); (case aB => exact (by repeat (first | (with_reducible first | exact HB.out | apply below_alloc | apply pw_below_drewN | apply below_drew1) | exact HB.out))); (case aF => exact (fun _ _ => trivial)); (case aO => exact (by (with_reducible repeat (first | apply Kd.R_alloc | apply Kd.R_drewN | apply Kd.R_drew)); exact HO_11.out)); (case aS => exact (below_size (by repeat (first | (with_reducible first | exact HB.out | apply below_alloc | apply pw_below_drewN | apply below_drew1) | exact HB.out)))); (case aL => have := LMc19.out; omega); intro v112 w21 ho hb hg hat; rw [← Ny111.out] at ho; have n0_ := Aside0.mk (hb); have n1_ := Aside0.mk (ho); clear HB; clear HO_11; have HB := n0_; have HO113 := n1_; clear n0_ n1_; clear ho hb hg hat))
                      go_roundg k2
                      case measure => have := HJ6.out; have := HK2.out; omega
                      case rel => exact ⟨(y111), (wrap64 (x45_2 + 1)), (by first | rfl | (simp; done) | (simp [*]; done)), H', ⟨by have := HJ6.out; have := HK2.out; omega⟩, ⟨by (with_reducible repeat (first | apply Kd.R_alloc | apply Kd.R_drewN | apply Kd.R_drew)); exact HO113.out⟩, ⟨by repeat (first | (with_reducible first | exact HB.out | apply below_alloc | apply pw_below_drewN | apply below_drew1) | exact HB.out)⟩⟩
                    · rw [if_neg c19] at H
                      exact absurd H (by simp)
              · rw [if_neg c14] at H
                have c14b0 : decide (x45_2 < a2) = false := decide_eq_false c14
                clear c14
                replace H := Option.bind_eq_some_iff.mp H
                obtain ⟨t114, A220, H⟩ := H
                replace H : (some (t114, 0)) = some (r1, r2) := H
                have A22 := Aside0.mk A220
                clear A220
                simp only [Option.some.injEq, Prod.mk.injEq] at H
                obtain ⟨rfl, rfl⟩ := H
                obtain ⟨Ao23, co23, eo23⟩ := Kd.R_slice HO_11.out
                subst eo23
                go_wp2_with (first | ((with_reducible refine gate_callee (f := 31) rfl ?_); refine goesL_ (some 64) rfl rfl Try.func31 (by kernel_rfl) rfl #[.slice Ao23 x11_2.length co23] rfl (by (try simp only [List.map_toArray, List.map_cons, List.map_nil]); first | done | rfl | (simp only [List.length_drop, List.length_take]; rfl)) ?_; (with_reducible refine (slices_Sort_int_int.calls (fun k_ => some k_ = (.slice Ao23 x11_2.length co23 : Value).ownBlock) (.slice Ao23 x11_2.length co23) x11_2 t114 w _ ?side1 ?side2 A22.out).mono ?_); (case side1 => repeat (first | (with_reducible first | exact HB.out | apply below_alloc | apply pw_below_drewN | apply below_drew1) | exact HB.out)); (case side2 => exact Kd.R_tight rfl HO_11.out); rintro e w24 ⟨rfl, hy0, hb, hkp⟩; refine ⟨_, rfl, ?_⟩; have n0_ := Aside0.mk (Kd.R_reok rfl hy0 (fun k_ e_ => HO_11.out.1 k_ e_)); have n1_ := Aside0.mk (hb); clear HO_11; clear HB; have HO_11 := n0_; have HB := n1_; clear n0_ n1_; (try clear hb); (try clear hkp); (try clear hy0)))
                go_ret2
                exact ⟨_, by first | rfl | (simp [errW_none, errW_some] <;> rfl) | (simp [*, errW_none, errW_some] <;> rfl), by (with_reducible repeat (first | apply Kd.R_alloc | apply Kd.R_drewN | apply Kd.R_drew)); exact HO_11.out, by repeat (first | (with_reducible first | exact HB.out | apply below_alloc | apply pw_below_drewN | apply below_drew1) | exact HB.out)⟩
  · rw [if_neg c6] at H
    have c6b0 : (t109 == 0) = false := beq_eq_false_iff_ne.mpr c6
    have c6b1 : (t109 != 0) = true := bne_iff_ne.mpr c6
    simp only [Option.some.injEq, Prod.mk.injEq] at H
    obtain ⟨rfl, rfl⟩ := H
    go_enter Try.func15, Try.ntmps15
    go_wp2_with (first | ((with_reducible refine gate_callee (f := 38) rfl ?_); refine goesL_ (some 15) rfl rfl Try.func38 (by kernel_rfl) rfl #[.int .i64 a0] rfl (by (try simp only [List.map_toArray, List.map_cons, List.map_nil]); first | done | rfl | (simp only [List.length_drop, List.length_take]; rfl)) ?_; (with_reducible refine (evenness_division.calls a0 t109 _ A5.out).mono ?_); rintro e w' ⟨rfl, ⟨nd, rfl⟩⟩; refine ⟨_, rfl, ?_⟩))
    go_ret2
    exact ⟨_, by first | rfl | (simp [errW_none, errW_some] <;> rfl) | (simp [*, errW_none, errW_some] <;> rfl), by first | exact Kd.R_nil _ _ _ _ _ | exact Kd.N_nil _ _ _ _ _ | exact Kd.V_nil _ _ _ _ _ | exact Kd.Q_nil _ _ _ _ _ | exact Kd.S_nil _ _ _ _ _, by repeat (first | (with_reducible first | exact HB.out | apply below_alloc | apply pw_below_drewN | apply below_drew1) | exact HB.out)⟩

/-! ### evenness_Generator: function 18 -/
mutual
def evenness_Generator.l0 : Nat → Int → List Int → Int → Option (Int × Int × Bool × Int)
  | 0, _, _, _ => none
  | k + 1, x0, x1, x9 => if x9 < x0 then (evenness_Generator.l1 k x0 x1 x9 x1 (x1.length : Int) 0) else (some (0, 0, false, 0))
def evenness_Generator.l1 : Nat → Int → List Int → Int → List Int → Int → Int → Option (Int × Int × Bool × Int)
  | 0, _, _, _, _, _, _ => none
  | k + 1, x0, x1, x9, x28, x29, x30 => if x30 < x29 then (if 0 ≤ x30 then (if x30 < (x28.length : Int) then ((evenness_Generated.f k x0 x9 (x1.length : Int) (rd x28 x30)).bind fun bt120 => (if bt120.2 = 0 then ((slices_Equal_int_int.f k bt120.1 x1).bind fun t124 => (if t124 = true then (some (x9, rd x28 x30, true, 0)) else (evenness_Generator.l1 k x0 x1 x9 x28 x29 (wrap64 (x30 + 1))))) else (evenness_Generator.l1 k x0 x1 x9 x28 x29 (wrap64 (x30 + 1))))) else (none)) else (none)) else (evenness_Generator.l0 k x0 x1 (wrap64 (x9 + 1)))
end
def evenness_Generator.f (k : Nat) (a0 : Int) (l1 : List Int) : Option (Int × Int × Bool × Int) := (evenness_Check.f k a0 l1).bind fun t118 => (if t118 = 0 then (if (l1.length : Int) = 1 then (some (0, 0, false, 0)) else (evenness_Generator.l0 k a0 l1 1)) else (some (0, 0, false, t118)))
theorem evenness_Generator.mono_l : ∀ k, (∀ y0 y1 y2, LeO (evenness_Generator.l0 k y0 y1 y2) (evenness_Generator.l0 (k + 1) y0 y1 y2)) ∧ (∀ y0 y1 y2 y3 y4 y5, LeO (evenness_Generator.l1 k y0 y1 y2 y3 y4 y5) (evenness_Generator.l1 (k + 1) y0 y1 y2 y3 y4 y5))
  | 0 => ⟨fun _ _ _ r h => by simp [evenness_Generator.l0] at h, fun _ _ _ _ _ _ r h => by simp [evenness_Generator.l1] at h⟩
  | k + 1 => by
    obtain ⟨ih0, ih1⟩ := evenness_Generator.mono_l k
    refine ⟨?_, ?_⟩
    · intro y0 y1 y2
      unfold evenness_Generator.l0
      repeat' first
      | (with_reducible exact ih0 _ _ _)
      | (with_reducible exact ih1 _ _ _ _ _ _)
      | (with_reducible exact evenness_Check.mono _ _ _)
      | (with_reducible exact evenness_Generated.mono _ _ _ _ _)
      | (with_reducible exact slices_Equal_int_int.mono _ _ _)
      | (with_reducible exact LeO.refl _)
      | (with_reducible exact LeO.none _)
      | (with_reducible refine LeO.ite ?_ ?_)
      | (with_reducible refine LeO.bind ?_ (fun _ => ?_))
      | exact ih0 _ _ _
      | exact ih1 _ _ _ _ _ _
      | exact evenness_Check.mono _ _ _
      | exact evenness_Generated.mono _ _ _ _ _
      | exact slices_Equal_int_int.mono _ _ _
      | exact LeO.none _
      | refine LeO.ite ?_ ?_
      | refine LeO.bind ?_ (fun _ => ?_)
    · intro y0 y1 y2 y3 y4 y5
      unfold evenness_Generator.l1
      repeat' first
      | (with_reducible exact ih0 _ _ _)
      | (with_reducible exact ih1 _ _ _ _ _ _)
      | (with_reducible exact evenness_Check.mono _ _ _)
      | (with_reducible exact evenness_Generated.mono _ _ _ _ _)
      | (with_reducible exact slices_Equal_int_int.mono _ _ _)
      | (with_reducible exact LeO.refl _)
      | (with_reducible exact LeO.none _)
      | (with_reducible refine LeO.ite ?_ ?_)
      | (with_reducible refine LeO.bind ?_ (fun _ => ?_))
      | exact ih0 _ _ _
      | exact ih1 _ _ _ _ _ _
      | exact evenness_Check.mono _ _ _
      | exact evenness_Generated.mono _ _ _ _ _
      | exact slices_Equal_int_int.mono _ _ _
      | exact LeO.none _
      | refine LeO.ite ?_ ?_
      | refine LeO.bind ?_ (fun _ => ?_)
theorem evenness_Generator.mono : ∀ a0 a1 k, LeO (evenness_Generator.f k a0 a1) (evenness_Generator.f (k + 1) a0 a1) := by
  intro a0 a1 k
  obtain ⟨ih0, ih1⟩ := evenness_Generator.mono_l k
  unfold evenness_Generator.f
  repeat' first
      | (with_reducible exact ih0 _ _ _)
      | (with_reducible exact ih1 _ _ _ _ _ _)
      | (with_reducible exact evenness_Check.mono _ _ _)
      | (with_reducible exact evenness_Generated.mono _ _ _ _ _)
      | (with_reducible exact slices_Equal_int_int.mono _ _ _)
      | (with_reducible exact LeO.refl _)
      | (with_reducible exact LeO.none _)
      | (with_reducible refine LeO.ite ?_ ?_)
      | (with_reducible refine LeO.bind ?_ (fun _ => ?_))
      | exact ih0 _ _ _
      | exact ih1 _ _ _ _ _ _
      | exact evenness_Check.mono _ _ _
      | exact evenness_Generated.mono _ _ _ _ _
      | exact slices_Equal_int_int.mono _ _ _
      | exact LeO.none _
      | refine LeO.ite ?_ ?_
      | refine LeO.bind ?_ (fun _ => ?_)
set_option maxHeartbeats 8000000 in
set_option maxRecDepth 100000 in
theorem evenness_Generator.calls (k : Nat) (a0 : Int) (A1 : Option Addr) (c1 : Nat) (l1 : List Int) (r1 : Int) (r2 : Int) (r3 : Bool) (r4 : Int) (w : World) (hr1 : Kd.C (Kd.int .i64) w A1 l1.length l1) (hc1 : l1.length ≤ c1) (h : evenness_Generator.f k a0 l1 = some (r1, r2, r3, r4)) :
    Calls Try.prog 18 #[.int .i64 a0, .slice A1 l1.length c1] w fun e w' => e = .returned (.tuple #[.int .i64 r1, .int .i64 r2, .bool r3, .int .i64 r4]) ∧ Below w.heap.size w w' := by
  have HR1 := Aside0.mk hr1
  have HC1 := Aside0.mk hc1
  clear hr1 hc1
  have HB := Aside0.mk (Below.refl w.heap.size w)
  have H : ((evenness_Check.f k a0 l1).bind fun t118 => (if t118 = 0 then (if (l1.length : Int) = 1 then (some (0, 0, false, 0)) else (evenness_Generator.l0 k a0 l1 1)) else (some (0, 0, false, t118)))) = some (r1, r2, r3, r4) := h
  clear h
  replace H := Option.bind_eq_some_iff.mp H
  obtain ⟨t118, A30, H⟩ := H
  replace H : (if t118 = 0 then (if (l1.length : Int) = 1 then (some (0, 0, false, 0)) else (evenness_Generator.l0 k a0 l1 1)) else (some (0, 0, false, t118))) = some (r1, r2, r3, r4) := H
  have A3 := Aside0.mk A30
  clear A30
  by_cases c4 : t118 = 0
  · rw [if_pos c4] at H
    have c4b0 : (t118 == 0) = true := beq_iff_eq.mpr c4
    have c4b1 : (t118 != 0) = false := bne_eq_false_iff_eq.mpr c4
    clear c4
    by_cases c5 : (l1.length : Int) = 1
    · rw [if_pos c5] at H
      have c5b0 : ((l1.length : Int) == 1) = true := beq_iff_eq.mpr c5
      have c5b1 : ((l1.length : Int) != 1) = false := bne_eq_false_iff_eq.mpr c5
      clear c5
      simp only [Option.some.injEq, Prod.mk.injEq] at H
      obtain ⟨rfl, rfl, rfl, rfl⟩ := H
      go_enter Try.func18, Try.ntmps18
      go_wp2_with (first | ((with_reducible refine gate_callee (f := 37) rfl ?_); refine goesL_ (some 16) rfl rfl Try.func37 (by kernel_rfl) rfl #[.int .i64 a0, .slice A1 l1.length c1] rfl (by (try simp only [List.map_toArray, List.map_cons, List.map_nil]); first | done | rfl | (simp only [List.length_drop, List.length_take]; rfl)) ?_; (with_reducible refine (evenness_Check.calls k a0 _ _ l1 t118 _ ?side1 ?side2 A3.out).mono ?_); (case side1 => repeat (first | exact HR1.out | (with_reducible refine Kd.C_alloc ?_ _) | (with_reducible refine Kd.C_drewN ?_ _) | (with_reducible refine Kd.C_drew ?_))); (case side2 => exact HC1.out); rintro e w' ⟨rfl, ⟨nd, rfl⟩⟩; refine ⟨_, rfl, ?_⟩))
      refine bodyPost_ret (results_list (rs := [.tmp 4, .tmp 5, .tmp 6, .tmp 7]) rfl (by simp) (.tmp (.tmp (.tmp (.tmp .nil))))) rfl ?_
      exact ⟨by first | rfl | (simp [errW_none, errW_some] <;> rfl) | (simp [*, errW_none, errW_some] <;> rfl), by repeat (first | (with_reducible first | exact HB.out | apply below_alloc | apply pw_below_drewN | apply below_drew1) | exact HB.out)⟩
    · rw [if_neg c5] at H
      have c5b0 : ((l1.length : Int) == 1) = false := beq_eq_false_iff_ne.mpr c5
      have c5b1 : ((l1.length : Int) != 1) = true := bne_iff_ne.mpr c5
      have H' := Aside0.mk H
      clear H
      go_enter Try.func18, Try.ntmps18
      go_wp2_with (first | ((with_reducible refine gate_callee (f := 37) rfl ?_); refine goesL_ (some 16) rfl rfl Try.func37 (by kernel_rfl) rfl #[.int .i64 a0, .slice A1 l1.length c1] rfl (by (try simp only [List.map_toArray, List.map_cons, List.map_nil]); first | done | rfl | (simp only [List.length_drop, List.length_take]; rfl)) ?_; (with_reducible refine (evenness_Check.calls k a0 _ _ l1 t118 _ ?side1 ?side2 A3.out).mono ?_); (case side1 => repeat (first | exact HR1.out | (with_reducible refine Kd.C_alloc ?_ _) | (with_reducible refine Kd.C_drewN ?_ _) | (with_reducible refine Kd.C_drew ?_))); (case side2 => exact HC1.out); rintro e w' ⟨rfl, ⟨nd, rfl⟩⟩; refine ⟨_, rfl, ?_⟩))
      go_loopg [9] k (fun kq v9 w' => ∃ (x9_1 : Int), v9 = .int .i64 x9_1 ∧ Aside0 (evenness_Generator.l0 kq a0 l1 x9_1 = some (r1, r2, r3, r4)) ∧ Aside0 (kq ≤ k) ∧ Aside0 (Below w.heap.size w w'))
      case atStart => exact ⟨(1), (by first | rfl | (simp; done) | (simp [*]; done)), H', ⟨Nat.le_refl _⟩, ⟨by repeat (first | (with_reducible first | exact HB.out | apply below_alloc | apply pw_below_drewN | apply below_drew1) | exact HB.out)⟩⟩
      case round =>
        clear H'
        try clear c1
        try clear p2
        try clear c3
        try clear c4
        try clear c4b0
        try clear c4b1
        try clear c5
        try clear c5b0
        try clear c5b1
        obtain ⟨x9_1, rfl, HA, HK1, HB⟩ := hrel
        cases gk with
        | zero => exact absurd HA.out (by simp [evenness_Generator.l0])
        | succ k1 =>
          have H := HA.out
          clear HA
          simp only [evenness_Generator.l0] at H
          by_cases c6 : x9_1 < a0
          · rw [if_pos c6] at H
            have c6b0 : decide (x9_1 < a0) = true := decide_eq_true c6
            clear c6
            have H' := Aside0.mk H
            clear H
            go_wp2
            go_loopg [30] k1 (fun kq v30 w' => ∃ (x30_2 : Int), v30 = .int .i64 x30_2 ∧ Aside0 (evenness_Generator.l1 kq a0 l1 x9_1 l1 (l1.length : Int) x30_2 = some (r1, r2, r3, r4)) ∧ Aside0 (kq ≤ k1) ∧ Aside0 (Below w.heap.size w w'))
            case atStart => exact ⟨(0), (by first | rfl | (simp; done) | (simp [*]; done)), H', ⟨Nat.le_refl _⟩, ⟨by repeat (first | (with_reducible first | exact HB.out | apply below_alloc | apply pw_below_drewN | apply below_drew1) | exact HB.out)⟩⟩
            case round =>
              clear H'
              try clear c1
              try clear p2
              try clear c3
              try clear c4
              try clear c4b0
              try clear c4b1
              try clear c5
              try clear c5b0
              try clear c5b1
              try clear c6
              try clear c6b0
              try clear p2
              obtain ⟨x30_2, rfl, HA, HK2, HB⟩ := hrel
              cases gk with
              | zero => exact absurd HA.out (by simp [evenness_Generator.l1])
              | succ k2 =>
                have H := HA.out
                clear HA
                simp only [evenness_Generator.l1] at H
                by_cases c7 : x30_2 < (l1.length : Int)
                · rw [if_pos c7] at H
                  have c7b0 : decide (x30_2 < (l1.length : Int)) = true := decide_eq_true c7
                  clear c7
                  by_cases c8 : 0 ≤ x30_2
                  · rw [if_pos c8] at H
                    have c8b0 : decide (0 ≤ x30_2) = true := decide_eq_true c8
                    clear c8
                    by_cases c9 : x30_2 < (l1.length : Int)
                    · rw [if_pos c9] at H
                      have c9b0 : decide (x30_2 < (l1.length : Int)) = true := decide_eq_true c9
                      clear c9
                      replace H := Option.bind_eq_some_iff.mp H
                      obtain ⟨⟨t120, t121⟩, A100, H⟩ := H
                      replace H : (if t121 = 0 then ((slices_Equal_int_int.f k2 t120 l1).bind fun t124 => (if t124 = true then (some (x9_1, rd l1 x30_2, true, 0)) else (evenness_Generator.l1 k2 a0 l1 x9_1 l1 (l1.length : Int) (wrap64 (x30_2 + 1))))) else (evenness_Generator.l1 k2 a0 l1 x9_1 l1 (l1.length : Int) (wrap64 (x30_2 + 1)))) = some (r1, r2, r3, r4) := H
                      have A10 := Aside0.mk A100
                      clear A100
                      by_cases c11 : t121 = 0
                      · rw [if_pos c11] at H
                        have c11b0 : (t121 == 0) = true := beq_iff_eq.mpr c11
                        have c11b1 : (t121 != 0) = false := bne_eq_false_iff_eq.mpr c11
                        clear c11
                        replace H := Option.bind_eq_some_iff.mp H
                        obtain ⟨t124, A120, H⟩ := H
                        replace H : (if t124 = true then (some (x9_1, rd l1 x30_2, true, 0)) else (evenness_Generator.l1 k2 a0 l1 x9_1 l1 (l1.length : Int) (wrap64 (x30_2 + 1)))) = some (r1, r2, r3, r4) := H
                        have A12 := Aside0.mk A120
                        clear A120
                        by_cases c13 : t124 = true
                        · subst c13
                          have H1 : (some (x9_1, rd l1 x30_2, true, 0)) = some (r1, r2, r3, r4) := by rw [if_pos rfl] at H; exact H
                          clear H
                          have H := H1
                          clear H1
                          simp only [Option.some.injEq, Prod.mk.injEq] at H
                          obtain ⟨rfl, rfl, rfl, rfl⟩ := H
                          have p119 : 0 ≤ (x30_2 : Int) := of_decide_eq_true (by first | (with_reducible assumption) | assumption)
                          have q119 : x30_2 < (l1.length : Int) := of_decide_eq_true (by first | (with_reducible assumption) | assumption)
                          obtain ⟨ad119, e119, hx119_0⟩ := Kd.at_int HR1.out x30_2 p119 q119
                          cases e119
                          replace hx119_0 := (HB.out.cell (World.block_lt_of_cell? w _ hx119_0)).trans hx119_0
                          replace p119 := eq_true p119
                          replace q119 := eq_true q119
                          go_wp2_with (first | ((with_reducible refine gate_callee (f := 15) rfl ?_); refine goesL_ (some 40) rfl rfl Try.func15 (by kernel_rfl) rfl #[.int .i64 a0, .int .i64 x9_1, .int .i64 (l1.length : Int), .int .i64 (rd l1 x30_2)] rfl (by (try simp only [List.map_toArray, List.map_cons, List.map_nil]); first | done | rfl | (simp only [List.length_drop, List.length_take]; rfl)) ?_; (with_reducible refine (evenness_Generated.calls k2 a0 x9_1 (l1.length : Int) (rd l1 x30_2) t120 t121 _ A10.out).mono ?_); rintro e w14 ⟨v122, rfl, ho0, hb⟩; refine ⟨_, rfl, ?_⟩; have n0_ := Aside0.mk (Kd.R_lower ho0 (below_size (by repeat (first | (with_reducible first | exact HB.out | apply below_alloc | apply pw_below_drewN | apply below_drew1) | exact HB.out)))); have n1_ := Aside0.mk (below_step (by repeat (first | (with_reducible first | exact HB.out | apply below_alloc | apply pw_below_drewN | apply below_drew1) | exact HB.out)) hb); clear HB; have HO123 := n0_; have HB := n1_; clear n0_ n1_; (try clear hb); (try clear hb2); (try clear hk); (try clear hi); (try clear ho0); obtain ⟨Ao15, co15, eo15⟩ := Kd.R_slice HO123.out; subst eo15) | (go_at_call 14; (with_reducible refine (slices_Equal_int_int.calls k2 _ _ t120 _ _ l1 true _ ?side1 ?side2 ?side3 ?side4 A12.out).mono ?_); (case side1 => repeat (first | exact (Kd.R_reads' HO123.out).2.2 | (with_reducible refine Kd.C_alloc ?_ _) | (with_reducible refine Kd.C_drewN ?_ _) | (with_reducible refine Kd.C_drew ?_))); (case side2 => exact (Kd.R_reads' HO123.out).2.1); (case side3 => repeat (first | exact (Kd.C_below HR1.out HB.out) | (with_reducible refine Kd.C_alloc ?_ _) | (with_reducible refine Kd.C_drewN ?_ _) | (with_reducible refine Kd.C_drew ?_))); (case side4 => exact HC1.out); rintro e w' ⟨rfl, ⟨nd, rfl⟩⟩))
                          refine bodyPost_ret (results_list (rs := [.tmp 4, .tmp 5, .tmp 6, .tmp 7]) rfl (by simp) (.tmp (.tmp (.tmp (.tmp .nil))))) rfl ?_
                          exact ⟨by first | rfl | (simp [errW_none, errW_some] <;> rfl) | (simp [*, errW_none, errW_some] <;> rfl), by repeat (first | (with_reducible first | exact HB.out | apply below_alloc | apply pw_below_drewN | apply below_drew1) | exact HB.out)⟩
                        · replace c13 := Bool.eq_false_iff.mpr c13
                          subst c13
                          have H1 : (evenness_Generator.l1 k2 a0 l1 x9_1 l1 (l1.length : Int) (wrap64 (x30_2 + 1))) = some (r1, r2, r3, r4) := by rw [if_neg (show ¬ (false = true) by decide)] at H; exact H
                          clear H
                          have H := H1
                          clear H1
                          have H' := Aside0.mk H
                          clear H
                          have p119 : 0 ≤ (x30_2 : Int) := of_decide_eq_true (by first | (with_reducible assumption) | assumption)
                          have q119 : x30_2 < (l1.length : Int) := of_decide_eq_true (by first | (with_reducible assumption) | assumption)
                          obtain ⟨ad119, e119, hx119_0⟩ := Kd.at_int HR1.out x30_2 p119 q119
                          cases e119
                          replace hx119_0 := (HB.out.cell (World.block_lt_of_cell? w _ hx119_0)).trans hx119_0
                          replace p119 := eq_true p119
                          replace q119 := eq_true q119
                          go_wp2_with (first | ((with_reducible refine gate_callee (f := 15) rfl ?_); refine goesL_ (some 40) rfl rfl Try.func15 (by kernel_rfl) rfl #[.int .i64 a0, .int .i64 x9_1, .int .i64 (l1.length : Int), .int .i64 (rd l1 x30_2)] rfl (by (try simp only [List.map_toArray, List.map_cons, List.map_nil]); first | done | rfl | (simp only [List.length_drop, List.length_take]; rfl)) ?_; (with_reducible refine (evenness_Generated.calls k2 a0 x9_1 (l1.length : Int) (rd l1 x30_2) t120 t121 _ A10.out).mono ?_); rintro e w16 ⟨v122, rfl, ho0, hb⟩; refine ⟨_, rfl, ?_⟩; have n0_ := Aside0.mk (Kd.R_lower ho0 (below_size (by repeat (first | (with_reducible first | exact HB.out | apply below_alloc | apply pw_below_drewN | apply below_drew1) | exact HB.out)))); have n1_ := Aside0.mk (below_step (by repeat (first | (with_reducible first | exact HB.out | apply below_alloc | apply pw_below_drewN | apply below_drew1) | exact HB.out)) hb); clear HB; have HO123 := n0_; have HB := n1_; clear n0_ n1_; (try clear hb); (try clear hb2); (try clear hk); (try clear hi); (try clear ho0); obtain ⟨Ao17, co17, eo17⟩ := Kd.R_slice HO123.out; subst eo17) | (go_at_call 14; (with_reducible refine (slices_Equal_int_int.calls k2 _ _ t120 _ _ l1 false _ ?side1 ?side2 ?side3 ?side4 A12.out).mono ?_); (case side1 => repeat (first | exact (Kd.R_reads' HO123.out).2.2 | (with_reducible refine Kd.C_alloc ?_ _) | (with_reducible refine Kd.C_drewN ?_ _) | (with_reducible refine Kd.C_drew ?_))); (case side2 => exact (Kd.R_reads' HO123.out).2.1); (case side3 => repeat (first | exact (Kd.C_below HR1.out HB.out) | (with_reducible refine Kd.C_alloc ?_ _) | (with_reducible refine Kd.C_drewN ?_ _) | (with_reducible refine Kd.C_drew ?_))); (case side4 => exact HC1.out); rintro e w' ⟨rfl, ⟨nd, rfl⟩⟩))
                          go_roundg k2
                          case measure => have := HK1.out; have := HK2.out; omega
                          case rel => exact ⟨(wrap64 (x30_2 + 1)), (by first | rfl | (simp; done) | (simp [*]; done)), H', ⟨by have := HK1.out; have := HK2.out; omega⟩, ⟨by repeat (first | (with_reducible first | exact HB.out | apply below_alloc | apply pw_below_drewN | apply below_drew1) | exact HB.out)⟩⟩
                      · rw [if_neg c11] at H
                        have c11b0 : (t121 == 0) = false := beq_eq_false_iff_ne.mpr c11
                        have c11b1 : (t121 != 0) = true := bne_iff_ne.mpr c11
                        have H' := Aside0.mk H
                        clear H
                        have p119 : 0 ≤ (x30_2 : Int) := of_decide_eq_true (by first | (with_reducible assumption) | assumption)
                        have q119 : x30_2 < (l1.length : Int) := of_decide_eq_true (by first | (with_reducible assumption) | assumption)
                        obtain ⟨ad119, e119, hx119_0⟩ := Kd.at_int HR1.out x30_2 p119 q119
                        cases e119
                        replace hx119_0 := (HB.out.cell (World.block_lt_of_cell? w _ hx119_0)).trans hx119_0
                        replace p119 := eq_true p119
                        replace q119 := eq_true q119
                        go_wp2_with (first | ((with_reducible refine gate_callee (f := 15) rfl ?_); refine goesL_ (some 40) rfl rfl Try.func15 (by kernel_rfl) rfl #[.int .i64 a0, .int .i64 x9_1, .int .i64 (l1.length : Int), .int .i64 (rd l1 x30_2)] rfl (by (try simp only [List.map_toArray, List.map_cons, List.map_nil]); first | done | rfl | (simp only [List.length_drop, List.length_take]; rfl)) ?_; (with_reducible refine (evenness_Generated.calls k2 a0 x9_1 (l1.length : Int) (rd l1 x30_2) t120 t121 _ A10.out).mono ?_); rintro e w18 ⟨v122, rfl, ho0, hb⟩; refine ⟨_, rfl, ?_⟩; have n0_ := Aside0.mk (Kd.R_lower ho0 (below_size (by repeat (first | (with_reducible first | exact HB.out | apply below_alloc | apply pw_below_drewN | apply below_drew1) | exact HB.out)))); have n1_ := Aside0.mk (below_step (by repeat (first | (with_reducible first | exact HB.out | apply below_alloc | apply pw_below_drewN | apply below_drew1) | exact HB.out)) hb); clear HB; have HO123 := n0_; have HB := n1_; clear n0_ n1_; (try clear hb); (try clear hb2); (try clear hk); (try clear hi); (try clear ho0)))
                        go_roundg k2
                        case measure => have := HK1.out; have := HK2.out; omega
                        case rel => exact ⟨(wrap64 (x30_2 + 1)), (by first | rfl | (simp; done) | (simp [*]; done)), H', ⟨by have := HK1.out; have := HK2.out; omega⟩, ⟨by repeat (first | (with_reducible first | exact HB.out | apply below_alloc | apply pw_below_drewN | apply below_drew1) | exact HB.out)⟩⟩
                    · rw [if_neg c9] at H
                      exact absurd H (by simp)
                  · rw [if_neg c8] at H
                    exact absurd H (by simp)
                · rw [if_neg c7] at H
                  have c7b0 : decide (x30_2 < (l1.length : Int)) = false := decide_eq_false c7
                  clear c7
                  have H' := Aside0.mk H
                  clear H
                  go_wp2
                  go_roundg k2
                  case measure => have := HK1.out; have := HK2.out; omega
                  case rel => exact ⟨(wrap64 (x9_1 + 1)), (by first | rfl | (simp; done) | (simp [*]; done)), H', ⟨by have := HK1.out; have := HK2.out; omega⟩, ⟨by repeat (first | (with_reducible first | exact HB.out | apply below_alloc | apply pw_below_drewN | apply below_drew1) | exact HB.out)⟩⟩
          · rw [if_neg c6] at H
            have c6b0 : decide (x9_1 < a0) = false := decide_eq_false c6
            clear c6
            simp only [Option.some.injEq, Prod.mk.injEq] at H
            obtain ⟨rfl, rfl, rfl, rfl⟩ := H
            go_wp2
            refine bodyPost_ret (results_list (rs := [.tmp 4, .tmp 5, .tmp 6, .tmp 7]) rfl (by simp) (.tmp (.tmp (.tmp (.tmp .nil))))) rfl ?_
            exact ⟨by first | rfl | (simp [errW_none, errW_some] <;> rfl) | (simp [*, errW_none, errW_some] <;> rfl), by repeat (first | (with_reducible first | exact HB.out | apply below_alloc | apply pw_below_drewN | apply below_drew1) | exact HB.out)⟩
  · rw [if_neg c4] at H
    have c4b0 : (t118 == 0) = false := beq_eq_false_iff_ne.mpr c4
    have c4b1 : (t118 != 0) = true := bne_iff_ne.mpr c4
    simp only [Option.some.injEq, Prod.mk.injEq] at H
    obtain ⟨rfl, rfl, rfl, rfl⟩ := H
    go_enter Try.func18, Try.ntmps18
    go_wp2_with (first | ((with_reducible refine gate_callee (f := 37) rfl ?_); refine goesL_ (some 16) rfl rfl Try.func37 (by kernel_rfl) rfl #[.int .i64 a0, .slice A1 l1.length c1] rfl (by (try simp only [List.map_toArray, List.map_cons, List.map_nil]); first | done | rfl | (simp only [List.length_drop, List.length_take]; rfl)) ?_; (with_reducible refine (evenness_Check.calls k a0 _ _ l1 t118 _ ?side1 ?side2 A3.out).mono ?_); (case side1 => repeat (first | exact HR1.out | (with_reducible refine Kd.C_alloc ?_ _) | (with_reducible refine Kd.C_drewN ?_ _) | (with_reducible refine Kd.C_drew ?_))); (case side2 => exact HC1.out); rintro e w' ⟨rfl, ⟨nd, rfl⟩⟩; refine ⟨_, rfl, ?_⟩))
    refine bodyPost_ret (results_list (rs := [.tmp 4, .tmp 5, .tmp 6, .tmp 7]) rfl (by simp) (.tmp (.tmp (.tmp (.tmp .nil))))) rfl ?_
    exact ⟨by first | rfl | (simp [errW_none, errW_some] <;> rfl) | (simp [*, errW_none, errW_some] <;> rfl), by repeat (first | (with_reducible first | exact HB.out | apply below_alloc | apply pw_below_drewN | apply below_drew1) | exact HB.out)⟩

/-! ### evenness_All: function 19 -/
def evenness_All.f (k : Nat) (a0 : Int) (a1 : Int) : Option ((List (List Int)) × Int) := (evenness_Make.f k a0 a1 0).bind fun bt130 => (if bt130.2 = 0 then ((evenness_Rotations.f k a0 bt130.1).bind fun bt134 => (some (bt134.1, bt134.2))) else (some (([] : List (List Int)), bt130.2)))
theorem evenness_All.mono : ∀ a0 a1 k, LeO (evenness_All.f k a0 a1) (evenness_All.f (k + 1) a0 a1) := by
  intro a0 a1 k
  unfold evenness_All.f
  repeat' first
      | (with_reducible exact evenness_Make.mono _ _ _ _)
      | (with_reducible exact evenness_Rotations.mono _ _ _)
      | (with_reducible exact LeO.refl _)
      | (with_reducible exact LeO.none _)
      | (with_reducible refine LeO.ite ?_ ?_)
      | (with_reducible refine LeO.bind ?_ (fun _ => ?_))
      | exact evenness_Make.mono _ _ _ _
      | exact evenness_Rotations.mono _ _ _
      | exact LeO.none _
      | refine LeO.ite ?_ ?_
      | refine LeO.bind ?_ (fun _ => ?_)
set_option maxHeartbeats 8000000 in
set_option maxRecDepth 100000 in
theorem evenness_All.calls (k : Nat) (a0 : Int) (a1 : Int) (r1 : List (List Int)) (r2 : Int) (w : World) (h : evenness_All.f k a0 a1 = some (r1, r2)) :
    Calls Try.prog 19 #[.int .i64 a0, .int .i64 a1] w fun e w' => ∃ v0_ : Value, e = .returned (.tuple #[v0_, .int .i64 r2]) ∧ Kd.R (Kd.slice 3 (Kd.int .i64)) 23 w' w.heap.size (fun _ => True) v0_ r1 ∧ Below w.heap.size w w' := by
  have HB := Aside0.mk (Below.refl w.heap.size w)
  have H : ((evenness_Make.f k a0 a1 0).bind fun bt130 => (if bt130.2 = 0 then ((evenness_Rotations.f k a0 bt130.1).bind fun bt134 => (some (bt134.1, bt134.2))) else (some (([] : List (List Int)), bt130.2)))) = some (r1, r2) := h
  clear h
  replace H := Option.bind_eq_some_iff.mp H
  obtain ⟨⟨t130, t131⟩, A30, H⟩ := H
  replace H : (if t131 = 0 then ((evenness_Rotations.f k a0 t130).bind fun bt134 => (some (bt134.1, bt134.2))) else (some (([] : List (List Int)), t131))) = some (r1, r2) := H
  have A3 := Aside0.mk A30
  clear A30
  by_cases c4 : t131 = 0
  · rw [if_pos c4] at H
    have c4b0 : (t131 == 0) = true := beq_iff_eq.mpr c4
    have c4b1 : (t131 != 0) = false := bne_eq_false_iff_eq.mpr c4
    clear c4
    replace H := Option.bind_eq_some_iff.mp H
    obtain ⟨⟨t134, t135⟩, A50, H⟩ := H
    replace H : (some (t134, t135)) = some (r1, r2) := H
    have A5 := Aside0.mk A50
    clear A50
    simp only [Option.some.injEq, Prod.mk.injEq] at H
    obtain ⟨rfl, rfl⟩ := H
    go_enter Try.func19, Try.ntmps19
    go_wp2_with (first | ((with_reducible refine gate_callee (f := 13) rfl ?_); refine goesL_ (some 11) rfl rfl Try.func13 (by kernel_rfl) rfl #[.int .i64 a0, .int .i64 a1, .int .i64 0] rfl (by (try simp only [List.map_toArray, List.map_cons, List.map_nil]); first | done | rfl | (simp only [List.length_drop, List.length_take]; rfl)) ?_; (with_reducible refine (evenness_Make.calls k a0 a1 0 t130 t131 _ A3.out).mono ?_); rintro e w6 ⟨v132, rfl, ho0, hb⟩; refine ⟨_, rfl, ?_⟩; have n0_ := Aside0.mk (Kd.R_lower ho0 (below_size (by repeat (first | (with_reducible first | exact HB.out | apply below_alloc | apply pw_below_drewN | apply below_drew1) | exact HB.out)))); have n1_ := Aside0.mk (below_step (by repeat (first | (with_reducible first | exact HB.out | apply below_alloc | apply pw_below_drewN | apply below_drew1) | exact HB.out)) hb); clear HB; have HO133 := n0_; have HB := n1_; clear n0_ n1_; (try clear hb); (try clear hb2); (try clear hk); (try clear hi); (try clear ho0); obtain ⟨Ao7, co7, eo7⟩ := Kd.R_slice HO133.out; subst eo7) | ((with_reducible refine gate_callee (f := 25) rfl ?_); refine goesL_ (some 19) rfl rfl Try.func25 (by kernel_rfl) rfl #[.int .i64 a0, .slice Ao7 t130.length co7] rfl (by (try simp only [List.map_toArray, List.map_cons, List.map_nil]); first | done | rfl | (simp only [List.length_drop, List.length_take]; rfl)) ?_; (with_reducible refine (evenness_Rotations.calls k a0 _ _ t130 t134 t135 _ ?side1 ?side2 A5.out).mono ?_); (case side1 => repeat (first | exact (Kd.R_reads' HO133.out).2.2 | (with_reducible refine Kd.C_alloc ?_ _) | (with_reducible refine Kd.C_drewN ?_ _) | (with_reducible refine Kd.C_drew ?_))); (case side2 => exact (Kd.R_reads' HO133.out).2.1); rintro e w8 ⟨v136, rfl, ho0, hb⟩; refine ⟨_, rfl, ?_⟩; have n0_ := Aside0.mk (Kd.R_below (by (with_reducible repeat (first | apply Kd.R_alloc | apply Kd.R_drewN | apply Kd.R_drew)); exact HO133.out) hb); have n1_ := Aside0.mk (Kd.R_lower (Kd.R_new' ho0 (Kd.R_lt (by (with_reducible repeat (first | apply Kd.R_alloc | apply Kd.R_drewN | apply Kd.R_drew)); exact HO133.out))) (below_size (by repeat (first | (with_reducible first | exact HB.out | apply below_alloc | apply pw_below_drewN | apply below_drew1) | exact HB.out)))); have n2_ := Aside0.mk (below_step (by repeat (first | (with_reducible first | exact HB.out | apply below_alloc | apply pw_below_drewN | apply below_drew1) | exact HB.out)) hb); clear HO133; clear HB; have HO133 := n0_; have HO137 := n1_; have HB := n2_; clear n0_ n1_ n2_; (try clear hb); (try clear hb2); (try clear hk); (try clear hi); (try clear ho0)))
    go_ret2
    exact ⟨_, by first | rfl | (simp [errW_none, errW_some] <;> rfl) | (simp [*, errW_none, errW_some] <;> rfl), by (with_reducible repeat (first | apply Kd.R_alloc | apply Kd.R_drewN | apply Kd.R_drew)); exact Kd.R_mono HO137.out (fun _ hk => trivial), by repeat (first | (with_reducible first | exact HB.out | apply below_alloc | apply pw_below_drewN | apply below_drew1) | exact HB.out)⟩
  · rw [if_neg c4] at H
    have c4b0 : (t131 == 0) = false := beq_eq_false_iff_ne.mpr c4
    have c4b1 : (t131 != 0) = true := bne_iff_ne.mpr c4
    simp only [Option.some.injEq, Prod.mk.injEq] at H
    obtain ⟨rfl, rfl⟩ := H
    go_enter Try.func19, Try.ntmps19
    go_wp2_with (first | ((with_reducible refine gate_callee (f := 13) rfl ?_); refine goesL_ (some 11) rfl rfl Try.func13 (by kernel_rfl) rfl #[.int .i64 a0, .int .i64 a1, .int .i64 0] rfl (by (try simp only [List.map_toArray, List.map_cons, List.map_nil]); first | done | rfl | (simp only [List.length_drop, List.length_take]; rfl)) ?_; (with_reducible refine (evenness_Make.calls k a0 a1 0 t130 t131 _ A3.out).mono ?_); rintro e w9 ⟨v132, rfl, ho0, hb⟩; refine ⟨_, rfl, ?_⟩; have n0_ := Aside0.mk (Kd.R_lower ho0 (below_size (by repeat (first | (with_reducible first | exact HB.out | apply below_alloc | apply pw_below_drewN | apply below_drew1) | exact HB.out)))); have n1_ := Aside0.mk (below_step (by repeat (first | (with_reducible first | exact HB.out | apply below_alloc | apply pw_below_drewN | apply below_drew1) | exact HB.out)) hb); clear HB; have HO133 := n0_; have HB := n1_; clear n0_ n1_; (try clear hb); (try clear hb2); (try clear hk); (try clear hi); (try clear ho0)))
    go_ret2
    exact ⟨_, by first | rfl | (simp [errW_none, errW_some] <;> rfl) | (simp [*, errW_none, errW_some] <;> rfl), by first | exact Kd.R_nil _ _ _ _ _ | exact Kd.N_nil _ _ _ _ _ | exact Kd.V_nil _ _ _ _ _ | exact Kd.Q_nil _ _ _ _ _ | exact Kd.S_nil _ _ _ _ _, by repeat (first | (with_reducible first | exact HB.out | apply below_alloc | apply pw_below_drewN | apply below_drew1) | exact HB.out)⟩

/-! ### evenness_IsEven: function 27 -/
def evenness_IsEven.l0 : Nat → Int → List Int → Int → Option (Bool × Int × Int × Int × Int)
  | 0, _, _, _ => none
  | k + 1, x0, x1, x8 => if x8 < (x1.length : Int) then ((evenness_sizes.f k x0 x1 x8).bind fun t145 => ((slices_Min_int_int.f t145).bind fun t148 => ((slices_Max_int_int.f t145).bind fun t149 => (if (wrap64 (t149 - t148)) > 1 then ((slices_Index_int_int.f k t145 t148).bind fun t150 => ((slices_Index_int_int.f k t145 t149).bind fun t151 => (some (false, x8, t150, t151, 0)))) else (evenness_IsEven.l0 k x0 x1 (wrap64 (x8 + 1))))))) else (some (true, 0, 0, 0, 0))
def evenness_IsEven.f (k : Nat) (a0 : Int) (l1 : List Int) : Option (Bool × Int × Int × Int × Int) := (evenness_Check.f k a0 l1).bind fun t144 => (if t144 = 0 then (evenness_IsEven.l0 k a0 l1 1) else (some (false, 0, 0, 0, t144)))
theorem evenness_IsEven.mono_l : ∀ k, (∀ y0 y1 y2, LeO (evenness_IsEven.l0 k y0 y1 y2) (evenness_IsEven.l0 (k + 1) y0 y1 y2))
  | 0 => fun _ _ _ r h => by simp [evenness_IsEven.l0] at h
  | k + 1 => by
    have ih0 := evenness_IsEven.mono_l k
    · intro y0 y1 y2
      unfold evenness_IsEven.l0
      repeat' first
      | (with_reducible exact ih0 _ _ _)
      | (with_reducible exact evenness_Check.mono _ _ _)
      | (with_reducible exact evenness_sizes.mono _ _ _ _)
      | (with_reducible exact slices_Index_int_int.mono _ _ _)
      | (with_reducible exact LeO.refl _)
      | (with_reducible exact LeO.none _)
      | (with_reducible refine LeO.ite ?_ ?_)
      | (with_reducible refine LeO.bind ?_ (fun _ => ?_))
      | exact ih0 _ _ _
      | exact evenness_Check.mono _ _ _
      | exact evenness_sizes.mono _ _ _ _
      | exact slices_Index_int_int.mono _ _ _
      | exact LeO.none _
      | refine LeO.ite ?_ ?_
      | refine LeO.bind ?_ (fun _ => ?_)
theorem evenness_IsEven.mono : ∀ a0 a1 k, LeO (evenness_IsEven.f k a0 a1) (evenness_IsEven.f (k + 1) a0 a1) := by
  intro a0 a1 k
  have ih0 := evenness_IsEven.mono_l k
  unfold evenness_IsEven.f
  repeat' first
      | (with_reducible exact ih0 _ _ _)
      | (with_reducible exact evenness_Check.mono _ _ _)
      | (with_reducible exact evenness_sizes.mono _ _ _ _)
      | (with_reducible exact slices_Index_int_int.mono _ _ _)
      | (with_reducible exact LeO.refl _)
      | (with_reducible exact LeO.none _)
      | (with_reducible refine LeO.ite ?_ ?_)
      | (with_reducible refine LeO.bind ?_ (fun _ => ?_))
      | exact ih0 _ _ _
      | exact evenness_Check.mono _ _ _
      | exact evenness_sizes.mono _ _ _ _
      | exact slices_Index_int_int.mono _ _ _
      | exact LeO.none _
      | refine LeO.ite ?_ ?_
      | refine LeO.bind ?_ (fun _ => ?_)
set_option maxHeartbeats 8000000 in
set_option maxRecDepth 100000 in
theorem evenness_IsEven.calls (k : Nat) (a0 : Int) (A1 : Option Addr) (c1 : Nat) (l1 : List Int) (r1 : Bool) (r2 : Int) (r3 : Int) (r4 : Int) (r5 : Int) (w : World) (hr1 : Kd.C (Kd.int .i64) w A1 l1.length l1) (hc1 : l1.length ≤ c1) (h : evenness_IsEven.f k a0 l1 = some (r1, r2, r3, r4, r5)) :
    Calls Try.prog 27 #[.int .i64 a0, .slice A1 l1.length c1] w fun e w' => e = .returned (.tuple #[.bool r1, .agg #[.int .i64 r2, .int .i64 r3, .int .i64 r4], .int .i64 r5]) ∧ Below w.heap.size w w' := by
  have hu46 := Try.underlying46
  have HR1 := Aside0.mk hr1
  have HC1 := Aside0.mk hc1
  clear hr1 hc1
  have HB := Aside0.mk (Below.refl w.heap.size w)
  have H : ((evenness_Check.f k a0 l1).bind fun t144 => (if t144 = 0 then (evenness_IsEven.l0 k a0 l1 1) else (some (false, 0, 0, 0, t144)))) = some (r1, r2, r3, r4, r5) := h
  clear h
  replace H := Option.bind_eq_some_iff.mp H
  obtain ⟨t144, A30, H⟩ := H
  replace H : (if t144 = 0 then (evenness_IsEven.l0 k a0 l1 1) else (some (false, 0, 0, 0, t144))) = some (r1, r2, r3, r4, r5) := H
  have A3 := Aside0.mk A30
  clear A30
  by_cases c4 : t144 = 0
  · rw [if_pos c4] at H
    have c4b0 : (t144 == 0) = true := beq_iff_eq.mpr c4
    have c4b1 : (t144 != 0) = false := bne_eq_false_iff_eq.mpr c4
    clear c4
    have H' := Aside0.mk H
    clear H
    go_enter Try.func27, Try.ntmps27
    go_wp2_with (first | ((with_reducible refine gate_dst (N := 5) rfl ?_); refine box_event ?hg (N := 5) ?hd (cs := #[.int .i64 0, .int .i64 0, .int .i64 0]) (t := 46) ?hr ?_; (case hd => rfl); (case hg => rfl); (case hr => first | (go_simp; done) | (go_simp; rfl)); intro gb143 hg w5 hbox hb; have n0_ := Aside0.mk (below_step (by repeat (first | (with_reducible first | exact HB.out | apply below_alloc | apply pw_below_drewN | apply below_drew1) | exact HB.out)) hb); have n1_ := Aside0.mk (hbox); have n2_ := Aside0.mk ((by rw [hg]; exact (below_size (by repeat (first | (with_reducible first | exact HB.out | apply below_alloc | apply pw_below_drewN | apply below_drew1) | exact HB.out))) : w.heap.size ≤ gb143)); have n3_ := Aside0.mk ((by rw [hg]; exact (below_size (by repeat (first | (with_reducible first | exact HB.out | apply below_alloc | apply pw_below_drewN | apply below_drew1) | exact HB.out))) : w.heap.size ≤ gb143)); clear HB; have HB := n0_; have BK143 := n1_; have GW143 := n2_; have GE143 := n3_; clear n0_ n1_ n2_ n3_; clear hb hbox hg) | ((with_reducible refine gate_callee (f := 37) rfl ?_); refine goesL_ (some 14) rfl rfl Try.func37 (by kernel_rfl) rfl #[.int .i64 a0, .slice A1 l1.length c1] rfl (by (try simp only [List.map_toArray, List.map_cons, List.map_nil]); first | done | rfl | (simp only [List.length_drop, List.length_take]; rfl)) ?_; (with_reducible refine (evenness_Check.calls k a0 _ _ l1 t144 _ ?side1 ?side2 A3.out).mono ?_); (case side1 => repeat (first | exact (Kd.C_below HR1.out HB.out) | (with_reducible refine Kd.C_alloc ?_ _) | (with_reducible refine Kd.C_drewN ?_ _) | (with_reducible refine Kd.C_drew ?_))); (case side2 => exact HC1.out); rintro e w' ⟨rfl, ⟨nd, rfl⟩⟩; refine ⟨_, rfl, ?_⟩))
    go_loopg [8] k (fun kq v8 w' => ∃ (x8_1 : Int) (x144000_1 : Int) (x144001_1 : Int) (x144002_1 : Int), v8 = .int .i64 x8_1 ∧ Aside0 (evenness_IsEven.l0 kq a0 l1 x8_1 = some (r1, r2, r3, r4, r5)) ∧ Aside0 (kq ≤ k) ∧ Aside0 (w'.heap[gb143]? = some (.cells #[.int .i64 x144000_1, .int .i64 x144001_1, .int .i64 x144002_1] 46 (0, 0))) ∧ Aside0 (Below w.heap.size w w'))
    case atStart => exact ⟨(1), (0), (0), (0), (by first | rfl | (simp; done) | (simp [*]; done)), H', ⟨Nat.le_refl _⟩, ⟨by (with_reducible repeat (first | refine blk_drewN ?_ _ | refine blk_drew ?_ | refine blk_alloc ?_ _)); exact BK143.out⟩, ⟨by repeat (first | (with_reducible first | exact HB.out | apply below_alloc | apply pw_below_drewN | apply below_drew1 | refine below_set ?_ GE143.out) | exact HB.out)⟩⟩
    case round =>
      clear H'
      try clear c1
      try clear c2
      try clear p2
      try clear c3
      try clear c4
      try clear c4b0
      try clear c4b1
      obtain ⟨x8_1, x144000_1, x144001_1, x144002_1, rfl, HA, HK1, BK143, HB⟩ := hrel
      cases gk with
      | zero => exact absurd HA.out (by simp [evenness_IsEven.l0])
      | succ k1 =>
        have H := HA.out
        clear HA
        simp only [evenness_IsEven.l0] at H
        by_cases c6 : x8_1 < (l1.length : Int)
        · rw [if_pos c6] at H
          have c6b0 : decide (x8_1 < (l1.length : Int)) = true := decide_eq_true c6
          clear c6
          replace H := Option.bind_eq_some_iff.mp H
          obtain ⟨t145, A70, H⟩ := H
          replace H : ((slices_Min_int_int.f t145).bind fun t148 => ((slices_Max_int_int.f t145).bind fun t149 => (if (wrap64 (t149 - t148)) > 1 then ((slices_Index_int_int.f k1 t145 t148).bind fun t150 => ((slices_Index_int_int.f k1 t145 t149).bind fun t151 => (some (false, x8_1, t150, t151, 0)))) else (evenness_IsEven.l0 k1 a0 l1 (wrap64 (x8_1 + 1)))))) = some (r1, r2, r3, r4, r5) := H
          have A7 := Aside0.mk A70
          clear A70
          replace H := Option.bind_eq_some_iff.mp H
          obtain ⟨t148, A80, H⟩ := H
          replace H : ((slices_Max_int_int.f t145).bind fun t149 => (if (wrap64 (t149 - t148)) > 1 then ((slices_Index_int_int.f k1 t145 t148).bind fun t150 => ((slices_Index_int_int.f k1 t145 t149).bind fun t151 => (some (false, x8_1, t150, t151, 0)))) else (evenness_IsEven.l0 k1 a0 l1 (wrap64 (x8_1 + 1))))) = some (r1, r2, r3, r4, r5) := H
          have A8 := Aside0.mk A80
          clear A80
          replace H := Option.bind_eq_some_iff.mp H
          obtain ⟨t149, A90, H⟩ := H
          replace H : (if (wrap64 (t149 - t148)) > 1 then ((slices_Index_int_int.f k1 t145 t148).bind fun t150 => ((slices_Index_int_int.f k1 t145 t149).bind fun t151 => (some (false, x8_1, t150, t151, 0)))) else (evenness_IsEven.l0 k1 a0 l1 (wrap64 (x8_1 + 1)))) = some (r1, r2, r3, r4, r5) := H
          have A9 := Aside0.mk A90
          clear A90
          by_cases c10 : (wrap64 (t149 - t148)) > 1
          · rw [if_pos c10] at H
            have c10b0 : decide (1 < (wrap64 (t149 - t148))) = true := decide_eq_true c10
            clear c10
            replace H := Option.bind_eq_some_iff.mp H
            obtain ⟨t150, A110, H⟩ := H
            replace H : ((slices_Index_int_int.f k1 t145 t149).bind fun t151 => (some (false, x8_1, t150, t151, 0))) = some (r1, r2, r3, r4, r5) := H
            have A11 := Aside0.mk A110
            clear A110
            replace H := Option.bind_eq_some_iff.mp H
            obtain ⟨t151, A120, H⟩ := H
            replace H : (some (false, x8_1, t150, t151, 0)) = some (r1, r2, r3, r4, r5) := H
            have A12 := Aside0.mk A120
            clear A120
            simp only [Option.some.injEq, Prod.mk.injEq] at H
            obtain ⟨rfl, rfl, rfl, rfl, rfl⟩ := H
            go_wp2_with (first | ((with_reducible refine gate_callee (f := 53) rfl ?_); refine goesL_ (some 28) rfl rfl Try.func53 (by kernel_rfl) rfl #[.int .i64 a0, .slice A1 l1.length c1, .int .i64 x8_1] rfl (by (try simp only [List.map_toArray, List.map_cons, List.map_nil]); first | done | rfl | (simp only [List.length_drop, List.length_take]; rfl)) ?_; (with_reducible refine (evenness_sizes.calls k1 a0 _ _ l1 x8_1 t145 _ ?side1 ?side2 A7.out).mono ?_); (case side1 => repeat (first | exact (Kd.C_below HR1.out HB.out) | (with_reducible refine Kd.C_alloc ?_ _) | (with_reducible refine Kd.C_drewN ?_ _) | (with_reducible refine Kd.C_drew ?_))); (case side2 => exact HC1.out); rintro e w13 ⟨v146, rfl, ho0, hb⟩; refine ⟨_, rfl, ?_⟩; have n0_ := Aside0.mk (Kd.R_lower ho0 (below_size (by repeat (first | (with_reducible first | exact HB.out | apply below_alloc | apply pw_below_drewN | apply below_drew1 | refine below_set ?_ GE143.out) | exact HB.out)))); have n1_ := Aside0.mk (blk_below (g := gb143) (o := .cells #[.int .i64 x144000_1, .int .i64 x144001_1, .int .i64 x144002_1] 46 (0, 0)) (by (with_reducible repeat (first | refine blk_drewN ?_ _ | refine blk_drew ?_ | refine blk_alloc ?_ _)); exact BK143.out) hb); have n2_ := Aside0.mk (below_step (by repeat (first | (with_reducible first | exact HB.out | apply below_alloc | apply pw_below_drewN | apply below_drew1 | refine below_set ?_ GE143.out) | exact HB.out)) hb); clear BK143; clear HB; have HO147 := n0_; have BK143 := n1_; have HB := n2_; clear n0_ n1_ n2_; (try clear hb); (try clear hb2); (try clear hk); (try clear hi); (try clear ho0); obtain ⟨Ao14, co14, eo14⟩ := Kd.R_slice HO147.out; subst eo14) | ((with_reducible refine gate_callee (f := 39) rfl ?_); refine goesL_ (some 30) rfl rfl Try.func39 (by kernel_rfl) rfl #[.slice Ao14 t145.length co14] rfl (by (try simp only [List.map_toArray, List.map_cons, List.map_nil]); first | done | rfl | (simp only [List.length_drop, List.length_take]; rfl)) ?_; (with_reducible refine (slices_Min_int_int.calls _ _ t145 t148 _ ?side1 ?side2 A8.out).mono ?_); (case side1 => repeat (first | exact (Kd.R_reads' HO147.out).2.2 | (with_reducible refine Kd.C_alloc ?_ _) | (with_reducible refine Kd.C_drewN ?_ _) | (with_reducible refine Kd.C_drew ?_))); (case side2 => exact (Kd.R_reads' HO147.out).2.1); rintro e w' ⟨rfl, ⟨nd, rfl⟩⟩; refine ⟨_, rfl, ?_⟩; (try (rw [drewN_self w13]; generalize hq_ : World.drewN w13 _ = w13; have n0_ : Aside0 (Kd.R (Kd.int .i64) 3 w13 w.heap.size (fun _ => True) (.slice Ao14 t145.length co14) t145) := ⟨by rw [← hq_]; exact (by (with_reducible repeat (first | apply Kd.R_alloc | apply Kd.R_drewN | apply Kd.R_drew)); exact HO147.out)⟩; have n1_ : Aside0 (w13.heap[gb143]? = some (.cells #[.int .i64 x144000_1, .int .i64 x144001_1, .int .i64 x144002_1] 46 (0, 0))) := ⟨by rw [← hq_]; exact (by (with_reducible repeat (first | refine blk_drewN ?_ _ | refine blk_drew ?_ | refine blk_alloc ?_ _)); exact BK143.out)⟩; have n2_ : Aside0 (Below w.heap.size w w13) := ⟨by rw [← hq_]; exact (by repeat (first | (with_reducible first | exact HB.out | apply below_alloc | apply pw_below_drewN | apply below_drew1 | refine below_set ?_ GE143.out) | exact HB.out))⟩; clear HO147 BK143 HB hq_; have HO147 := n0_; have BK143 := n1_; have HB := n2_; clear n0_ n1_ n2_))) | ((with_reducible refine gate_callee (f := 40) rfl ?_); refine goesL_ (some 32) rfl rfl Try.func40 (by kernel_rfl) rfl #[.slice Ao14 t145.length co14] rfl (by (try simp only [List.map_toArray, List.map_cons, List.map_nil]); first | done | rfl | (simp only [List.length_drop, List.length_take]; rfl)) ?_; (with_reducible refine (slices_Max_int_int.calls _ _ t145 t149 _ ?side1 ?side2 A9.out).mono ?_); (case side1 => repeat (first | exact (Kd.R_reads' HO147.out).2.2 | (with_reducible refine Kd.C_alloc ?_ _) | (with_reducible refine Kd.C_drewN ?_ _) | (with_reducible refine Kd.C_drew ?_))); (case side2 => exact (Kd.R_reads' HO147.out).2.1); rintro e w' ⟨rfl, ⟨nd, rfl⟩⟩; refine ⟨_, rfl, ?_⟩; (try (rw [drewN_self w13]; generalize hq_ : World.drewN w13 _ = w13; have n0_ : Aside0 (Kd.R (Kd.int .i64) 3 w13 w.heap.size (fun _ => True) (.slice Ao14 t145.length co14) t145) := ⟨by rw [← hq_]; exact (by (with_reducible repeat (first | apply Kd.R_alloc | apply Kd.R_drewN | apply Kd.R_drew)); exact HO147.out)⟩; have n1_ : Aside0 (w13.heap[gb143]? = some (.cells #[.int .i64 x144000_1, .int .i64 x144001_1, .int .i64 x144002_1] 46 (0, 0))) := ⟨by rw [← hq_]; exact (by (with_reducible repeat (first | refine blk_drewN ?_ _ | refine blk_drew ?_ | refine blk_alloc ?_ _)); exact BK143.out)⟩; have n2_ : Aside0 (Below w.heap.size w w13) := ⟨by rw [← hq_]; exact (by repeat (first | (with_reducible first | exact HB.out | apply below_alloc | apply pw_below_drewN | apply below_drew1 | refine below_set ?_ GE143.out) | exact HB.out))⟩; clear HO147 BK143 HB hq_; have HO147 := n0_; have BK143 := n1_; have HB := n2_; clear n0_ n1_ n2_))) | ((with_reducible refine gate_callee (f := 41) rfl ?_); refine goesL_ (some 40) rfl rfl Try.func41 (by kernel_rfl) rfl #[.slice Ao14 t145.length co14, .int .i64 t148] rfl (by (try simp only [List.map_toArray, List.map_cons, List.map_nil]); first | done | rfl | (simp only [List.length_drop, List.length_take]; rfl)) ?_; (with_reducible refine (slices_Index_int_int.calls k1 _ _ t145 t148 t150 _ ?side1 ?side2 A11.out).mono ?_); (case side1 => repeat (first | exact (Kd.R_reads' HO147.out).2.2 | (with_reducible refine Kd.C_alloc ?_ _) | (with_reducible refine Kd.C_drewN ?_ _) | (with_reducible refine Kd.C_drew ?_))); (case side2 => exact (Kd.R_reads' HO147.out).2.1); rintro e w' ⟨rfl, ⟨nd, rfl⟩⟩; refine ⟨_, rfl, ?_⟩; (try (rw [drewN_self w13]; generalize hq_ : World.drewN w13 _ = w13; have n0_ : Aside0 (Kd.R (Kd.int .i64) 3 w13 w.heap.size (fun _ => True) (.slice Ao14 t145.length co14) t145) := ⟨by rw [← hq_]; exact (by (with_reducible repeat (first | apply Kd.R_alloc | apply Kd.R_drewN | apply Kd.R_drew)); exact HO147.out)⟩; have n1_ : Aside0 (w13.heap[gb143]? = some (.cells #[.int .i64 x144000_1, .int .i64 x144001_1, .int .i64 x144002_1] 46 (0, 0))) := ⟨by rw [← hq_]; exact (by (with_reducible repeat (first | refine blk_drewN ?_ _ | refine blk_drew ?_ | refine blk_alloc ?_ _)); exact BK143.out)⟩; have n2_ : Aside0 (Below w.heap.size w w13) := ⟨by rw [← hq_]; exact (by repeat (first | (with_reducible first | exact HB.out | apply below_alloc | apply pw_below_drewN | apply below_drew1 | refine below_set ?_ GE143.out) | exact HB.out))⟩; clear HO147 BK143 HB hq_; have HO147 := n0_; have BK143 := n1_; have HB := n2_; clear n0_ n1_ n2_))) | ((with_reducible refine gate_callee (f := 41) rfl ?_); refine goesL_ (some 43) rfl rfl Try.func41 (by kernel_rfl) rfl #[.slice Ao14 t145.length co14, .int .i64 t149] rfl (by (try simp only [List.map_toArray, List.map_cons, List.map_nil]); first | done | rfl | (simp only [List.length_drop, List.length_take]; rfl)) ?_; (with_reducible refine (slices_Index_int_int.calls k1 _ _ t145 t149 t151 _ ?side1 ?side2 A12.out).mono ?_); (case side1 => repeat (first | exact (Kd.R_reads' HO147.out).2.2 | (with_reducible refine Kd.C_alloc ?_ _) | (with_reducible refine Kd.C_drewN ?_ _) | (with_reducible refine Kd.C_drew ?_))); (case side2 => exact (Kd.R_reads' HO147.out).2.1); rintro e w' ⟨rfl, ⟨nd, rfl⟩⟩; refine ⟨_, rfl, ?_⟩; (try (rw [drewN_self w13]; generalize hq_ : World.drewN w13 _ = w13; have n0_ : Aside0 (Kd.R (Kd.int .i64) 3 w13 w.heap.size (fun _ => True) (.slice Ao14 t145.length co14) t145) := ⟨by rw [← hq_]; exact (by (with_reducible repeat (first | apply Kd.R_alloc | apply Kd.R_drewN | apply Kd.R_drew)); exact HO147.out)⟩; have n1_ : Aside0 (w13.heap[gb143]? = some (.cells #[.int .i64 x144000_1, .int .i64 x144001_1, .int .i64 x144002_1] 46 (0, 0))) := ⟨by rw [← hq_]; exact (by (with_reducible repeat (first | refine blk_drewN ?_ _ | refine blk_drew ?_ | refine blk_alloc ?_ _)); exact BK143.out)⟩; have n2_ : Aside0 (Below w.heap.size w w13) := ⟨by rw [← hq_]; exact (by repeat (first | (with_reducible first | exact HB.out | apply below_alloc | apply pw_below_drewN | apply below_drew1 | refine below_set ?_ GE143.out) | exact HB.out))⟩; clear HO147 BK143 HB hq_; have HO147 := n0_; have BK143 := n1_; have HB := n2_; clear n0_ n1_ n2_)); have hcz15_0 : w13.cell? ⟨gb143, 0, none⟩ = some (.int .i64 x144000_1) := (blk_cell BK143.out 0).trans rfl; have hcz15_1 : w13.cell? ⟨gb143, 1, none⟩ = some (.int .i64 x144001_1) := (blk_cell BK143.out 1).trans rfl; have hcz15_2 : w13.cell? ⟨gb143, 2, none⟩ = some (.int .i64 x144002_1) := (blk_cell BK143.out 2).trans rfl; have hfz15_0 := blk_frozen BK143.out 0; have hfz15_1 := blk_frozen BK143.out 1; have hfz15_2 := blk_frozen BK143.out 2))
            refine bodyPost_ret (results_list (rs := [.tmp 4, .cell 5 46, .tmp 6]) rfl (by simp) (.tmp (.cell gb143 46 #[.int .i64 x8_1, .int .i64 t150, .int .i64 t151] (0, 0) _ rfl (by (with_reducible repeat (first | refine blk_drewN ?_ _ | refine blk_drew ?_ | refine blk_alloc ?_ _)); refine blk_put (cs := #[.int .i64 x8_1, .int .i64 t150, .int .i64 x144002_1]) ?_ 2 _ rfl; (with_reducible repeat (first | refine blk_drewN ?_ _ | refine blk_drew ?_ | refine blk_alloc ?_ _)); refine blk_put (cs := #[.int .i64 x8_1, .int .i64 x144001_1, .int .i64 x144002_1]) ?_ 1 _ rfl; (with_reducible repeat (first | refine blk_drewN ?_ _ | refine blk_drew ?_ | refine blk_alloc ?_ _)); refine blk_put (cs := #[.int .i64 x144000_1, .int .i64 x144001_1, .int .i64 x144002_1]) ?_ 0 _ rfl; (with_reducible repeat (first | refine blk_drewN ?_ _ | refine blk_drew ?_ | refine blk_alloc ?_ _)); exact BK143.out) Try.underlying46 rfl (by kernel_rfl) (.tmp .nil)))) rfl ?_
            exact ⟨by first | rfl | (simp [errW_none, errW_some] <;> rfl) | (simp [*, errW_none, errW_some] <;> rfl), by repeat (first | (with_reducible first | exact HB.out | apply below_alloc | apply pw_below_drewN | apply below_drew1 | refine below_set ?_ GE143.out) | exact HB.out)⟩
          · rw [if_neg c10] at H
            have c10b0 : decide (1 < (wrap64 (t149 - t148))) = false := decide_eq_false c10
            clear c10
            have H' := Aside0.mk H
            clear H
            go_wp2_with (first | ((with_reducible refine gate_callee (f := 53) rfl ?_); refine goesL_ (some 28) rfl rfl Try.func53 (by kernel_rfl) rfl #[.int .i64 a0, .slice A1 l1.length c1, .int .i64 x8_1] rfl (by (try simp only [List.map_toArray, List.map_cons, List.map_nil]); first | done | rfl | (simp only [List.length_drop, List.length_take]; rfl)) ?_; (with_reducible refine (evenness_sizes.calls k1 a0 _ _ l1 x8_1 t145 _ ?side1 ?side2 A7.out).mono ?_); (case side1 => repeat (first | exact (Kd.C_below HR1.out HB.out) | (with_reducible refine Kd.C_alloc ?_ _) | (with_reducible refine Kd.C_drewN ?_ _) | (with_reducible refine Kd.C_drew ?_))); (case side2 => exact HC1.out); rintro e w16 ⟨v146, rfl, ho0, hb⟩; refine ⟨_, rfl, ?_⟩; have n0_ := Aside0.mk (Kd.R_lower ho0 (below_size (by repeat (first | (with_reducible first | exact HB.out | apply below_alloc | apply pw_below_drewN | apply below_drew1 | refine below_set ?_ GE143.out) | exact HB.out)))); have n1_ := Aside0.mk (blk_below (g := gb143) (o := .cells #[.int .i64 x144000_1, .int .i64 x144001_1, .int .i64 x144002_1] 46 (0, 0)) (by (with_reducible repeat (first | refine blk_drewN ?_ _ | refine blk_drew ?_ | refine blk_alloc ?_ _)); exact BK143.out) hb); have n2_ := Aside0.mk (below_step (by repeat (first | (with_reducible first | exact HB.out | apply below_alloc | apply pw_below_drewN | apply below_drew1 | refine below_set ?_ GE143.out) | exact HB.out)) hb); clear BK143; clear HB; have HO147 := n0_; have BK143 := n1_; have HB := n2_; clear n0_ n1_ n2_; (try clear hb); (try clear hb2); (try clear hk); (try clear hi); (try clear ho0); obtain ⟨Ao17, co17, eo17⟩ := Kd.R_slice HO147.out; subst eo17) | ((with_reducible refine gate_callee (f := 39) rfl ?_); refine goesL_ (some 30) rfl rfl Try.func39 (by kernel_rfl) rfl #[.slice Ao17 t145.length co17] rfl (by (try simp only [List.map_toArray, List.map_cons, List.map_nil]); first | done | rfl | (simp only [List.length_drop, List.length_take]; rfl)) ?_; (with_reducible refine (slices_Min_int_int.calls _ _ t145 t148 _ ?side1 ?side2 A8.out).mono ?_); (case side1 => repeat (first | exact (Kd.R_reads' HO147.out).2.2 | (with_reducible refine Kd.C_alloc ?_ _) | (with_reducible refine Kd.C_drewN ?_ _) | (with_reducible refine Kd.C_drew ?_))); (case side2 => exact (Kd.R_reads' HO147.out).2.1); rintro e w' ⟨rfl, ⟨nd, rfl⟩⟩; refine ⟨_, rfl, ?_⟩) | ((with_reducible refine gate_callee (f := 40) rfl ?_); refine goesL_ (some 32) rfl rfl Try.func40 (by kernel_rfl) rfl #[.slice Ao17 t145.length co17] rfl (by (try simp only [List.map_toArray, List.map_cons, List.map_nil]); first | done | rfl | (simp only [List.length_drop, List.length_take]; rfl)) ?_; (with_reducible refine (slices_Max_int_int.calls _ _ t145 t149 _ ?side1 ?side2 A9.out).mono ?_); (case side1 => repeat (first | exact (Kd.R_reads' HO147.out).2.2 | (with_reducible refine Kd.C_alloc ?_ _) | (with_reducible refine Kd.C_drewN ?_ _) | (with_reducible refine Kd.C_drew ?_))); (case side2 => exact (Kd.R_reads' HO147.out).2.1); rintro e w' ⟨rfl, ⟨nd, rfl⟩⟩; refine ⟨_, rfl, ?_⟩))
            go_roundg k1
            case measure => have := HK1.out; omega
            case rel => exact ⟨(wrap64 (x8_1 + 1)), (x144000_1), (x144001_1), (x144002_1), (by first | rfl | (simp; done) | (simp [*]; done)), H', ⟨by have := HK1.out; omega⟩, ⟨by (with_reducible repeat (first | refine blk_drewN ?_ _ | refine blk_drew ?_ | refine blk_alloc ?_ _)); exact BK143.out⟩, ⟨by repeat (first | (with_reducible first | exact HB.out | apply below_alloc | apply pw_below_drewN | apply below_drew1 | refine below_set ?_ GE143.out) | exact HB.out)⟩⟩
        · rw [if_neg c6] at H
          have c6b0 : decide (x8_1 < (l1.length : Int)) = false := decide_eq_false c6
          clear c6
          simp only [Option.some.injEq, Prod.mk.injEq] at H
          obtain ⟨rfl, rfl, rfl, rfl, rfl⟩ := H
          have hcz18_0 : wr.cell? ⟨gb143, 0, none⟩ = some (.int .i64 x144000_1) := (blk_cell BK143.out 0).trans rfl
          have hcz18_1 : wr.cell? ⟨gb143, 1, none⟩ = some (.int .i64 x144001_1) := (blk_cell BK143.out 1).trans rfl
          have hcz18_2 : wr.cell? ⟨gb143, 2, none⟩ = some (.int .i64 x144002_1) := (blk_cell BK143.out 2).trans rfl
          have hfz18_0 := blk_frozen BK143.out 0
          have hfz18_1 := blk_frozen BK143.out 1
          have hfz18_2 := blk_frozen BK143.out 2
          go_wp2
          refine bodyPost_ret (results_list (rs := [.tmp 4, .cell 5 46, .tmp 6]) rfl (by simp) (.tmp (.cell gb143 46 #[.int .i64 0, .int .i64 0, .int .i64 0] (0, 0) _ rfl (by (with_reducible repeat (first | refine blk_drewN ?_ _ | refine blk_drew ?_ | refine blk_alloc ?_ _)); refine blk_put (cs := #[.int .i64 0, .int .i64 0, .int .i64 x144002_1]) ?_ 2 _ rfl; (with_reducible repeat (first | refine blk_drewN ?_ _ | refine blk_drew ?_ | refine blk_alloc ?_ _)); refine blk_put (cs := #[.int .i64 0, .int .i64 x144001_1, .int .i64 x144002_1]) ?_ 1 _ rfl; (with_reducible repeat (first | refine blk_drewN ?_ _ | refine blk_drew ?_ | refine blk_alloc ?_ _)); refine blk_put (cs := #[.int .i64 x144000_1, .int .i64 x144001_1, .int .i64 x144002_1]) ?_ 0 _ rfl; (with_reducible repeat (first | refine blk_drewN ?_ _ | refine blk_drew ?_ | refine blk_alloc ?_ _)); exact BK143.out) Try.underlying46 rfl (by kernel_rfl) (.tmp .nil)))) rfl ?_
          exact ⟨by first | rfl | (simp [errW_none, errW_some] <;> rfl) | (simp [*, errW_none, errW_some] <;> rfl), by repeat (first | (with_reducible first | exact HB.out | apply below_alloc | apply pw_below_drewN | apply below_drew1 | refine below_set ?_ GE143.out) | exact HB.out)⟩
  · rw [if_neg c4] at H
    have c4b0 : (t144 == 0) = false := beq_eq_false_iff_ne.mpr c4
    have c4b1 : (t144 != 0) = true := bne_iff_ne.mpr c4
    simp only [Option.some.injEq, Prod.mk.injEq] at H
    obtain ⟨rfl, rfl, rfl, rfl, rfl⟩ := H
    go_enter Try.func27, Try.ntmps27
    go_wp2_with (first | ((with_reducible refine gate_dst (N := 5) rfl ?_); refine box_event ?hg (N := 5) ?hd (cs := #[.int .i64 0, .int .i64 0, .int .i64 0]) (t := 46) ?hr ?_; (case hd => rfl); (case hg => rfl); (case hr => first | (go_simp; done) | (go_simp; rfl)); intro gb143 hg w19 hbox hb; have n0_ := Aside0.mk (below_step (by repeat (first | (with_reducible first | exact HB.out | apply below_alloc | apply pw_below_drewN | apply below_drew1) | exact HB.out)) hb); have n1_ := Aside0.mk (hbox); have n2_ := Aside0.mk ((by rw [hg]; exact (below_size (by repeat (first | (with_reducible first | exact HB.out | apply below_alloc | apply pw_below_drewN | apply below_drew1) | exact HB.out))) : w.heap.size ≤ gb143)); have n3_ := Aside0.mk ((by rw [hg]; exact (below_size (by repeat (first | (with_reducible first | exact HB.out | apply below_alloc | apply pw_below_drewN | apply below_drew1) | exact HB.out))) : w.heap.size ≤ gb143)); clear HB; have HB := n0_; have BK143 := n1_; have GW143 := n2_; have GE143 := n3_; clear n0_ n1_ n2_ n3_; clear hb hbox hg) | ((with_reducible refine gate_callee (f := 37) rfl ?_); refine goesL_ (some 14) rfl rfl Try.func37 (by kernel_rfl) rfl #[.int .i64 a0, .slice A1 l1.length c1] rfl (by (try simp only [List.map_toArray, List.map_cons, List.map_nil]); first | done | rfl | (simp only [List.length_drop, List.length_take]; rfl)) ?_; (with_reducible refine (evenness_Check.calls k a0 _ _ l1 t144 _ ?side1 ?side2 A3.out).mono ?_); (case side1 => repeat (first | exact (Kd.C_below HR1.out HB.out) | (with_reducible refine Kd.C_alloc ?_ _) | (with_reducible refine Kd.C_drewN ?_ _) | (with_reducible refine Kd.C_drew ?_))); (case side2 => exact HC1.out); rintro e w' ⟨rfl, ⟨nd, rfl⟩⟩; refine ⟨_, rfl, ?_⟩; (try (rw [drewN_self w19]; generalize hq_ : World.drewN w19 _ = w19; have n0_ : Aside0 (w19.heap[gb143]? = some (.cells #[.int .i64 0, .int .i64 0, .int .i64 0] 46 (0, 0))) := ⟨by rw [← hq_]; exact (by (with_reducible repeat (first | refine blk_drewN ?_ _ | refine blk_drew ?_ | refine blk_alloc ?_ _)); exact BK143.out)⟩; have n1_ : Aside0 (Below w.heap.size w w19) := ⟨by rw [← hq_]; exact (by repeat (first | (with_reducible first | exact HB.out | apply below_alloc | apply pw_below_drewN | apply below_drew1 | refine below_set ?_ GE143.out) | exact HB.out))⟩; clear BK143 HB hq_; have BK143 := n0_; have HB := n1_; clear n0_ n1_)); have hcz20_0 : w19.cell? ⟨gb143, 0, none⟩ = some (.int .i64 0) := (blk_cell BK143.out 0).trans rfl; have hcz20_1 : w19.cell? ⟨gb143, 1, none⟩ = some (.int .i64 0) := (blk_cell BK143.out 1).trans rfl; have hcz20_2 : w19.cell? ⟨gb143, 2, none⟩ = some (.int .i64 0) := (blk_cell BK143.out 2).trans rfl; have hfz20_0 := blk_frozen BK143.out 0; have hfz20_1 := blk_frozen BK143.out 1; have hfz20_2 := blk_frozen BK143.out 2))
    refine bodyPost_ret (results_list (rs := [.tmp 4, .cell 5 46, .tmp 6]) rfl (by simp) (.tmp (.cell gb143 46 #[.int .i64 0, .int .i64 0, .int .i64 0] (0, 0) _ rfl (by (with_reducible repeat (first | refine blk_drewN ?_ _ | refine blk_drew ?_ | refine blk_alloc ?_ _)); refine blk_put (cs := #[.int .i64 0, .int .i64 0, .int .i64 0]) ?_ 2 _ rfl; (with_reducible repeat (first | refine blk_drewN ?_ _ | refine blk_drew ?_ | refine blk_alloc ?_ _)); refine blk_put (cs := #[.int .i64 0, .int .i64 0, .int .i64 0]) ?_ 1 _ rfl; (with_reducible repeat (first | refine blk_drewN ?_ _ | refine blk_drew ?_ | refine blk_alloc ?_ _)); refine blk_put (cs := #[.int .i64 0, .int .i64 0, .int .i64 0]) ?_ 0 _ rfl; (with_reducible repeat (first | refine blk_drewN ?_ _ | refine blk_drew ?_ | refine blk_alloc ?_ _)); exact BK143.out) Try.underlying46 rfl (by kernel_rfl) (.tmp .nil)))) rfl ?_
    exact ⟨by first | rfl | (simp [errW_none, errW_some] <;> rfl) | (simp [*, errW_none, errW_some] <;> rfl), by repeat (first | (with_reducible first | exact HB.out | apply below_alloc | apply pw_below_drewN | apply below_drew1 | refine below_set ?_ GE143.out) | exact HB.out)⟩

end Go.Proofs.Ytdbleoijefihhaa.PEv
