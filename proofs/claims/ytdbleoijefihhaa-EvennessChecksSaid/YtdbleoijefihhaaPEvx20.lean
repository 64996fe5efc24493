-- Written for this claim by a program of this session (myprint.py).
import Derived.Test.YtdbleoijefihhaaPEvx0
import Derived.Test.YtdbleoijefihhaaHm
import Derived.Test.YtdbleoijefihhaaPEvx1
import Derived.Test.YtdbleoijefihhaaPEvx2
import Derived.Test.YtdbleoijefihhaaPEvx4
import Derived.Test.YtdbleoijefihhaaPEvx5
import Derived.Test.YtdbleoijefihhaaPEvx6
import Derived.Test.YtdbleoijefihhaaPEvx7
import Derived.Test.YtdbleoijefihhaaPEvx15
import Derived.Test.YtdbleoijefihhaaHb
import Derived.Test.YtdbleoijefihhaaHc
namespace Go.Proofs.Ytdbleoijefihhaa.PEv
open Go.RowKit Go.Proofs.YtdbleoijefihhaaW.PrintWords Go.Proofs.YtdbleoijefihhaaW.PrintLast Go.Proofs.YtdbleoijefihhaaW.PrintMore
attribute [local go_sem] max2_int min2_int max_two min_two max_three min_three max_four min_four   -- for this text's walks alone
set_option linter.unusedVariables false
set_option linter.unusedSimpArgs false

attribute [local go_sem high] eqA46
/-! ### schismalaw35_EvennessChecks: function 11 -/
def schismalaw35_EvennessChecks.j0 : Nat → Int → List Int → Bool → Option (Bool)
  | 0, _, _, _ => none
  | k + 1, x0, x1, x31 => if x31 = true then ((schismalaw35_known.f k).bind fun t415 => (some t415)) else ((schismalaw35_check.f k x0 x1).bind fun t416 => ((evenness_Check.f k x0 x1).bind fun t417 => (if t417 = t416 then (if t416 = 0 then (some true) else ((evenness_Steps.f k x0 x1).bind fun bt418 => ((evenness_Spectrum.f k x0 x1 0).bind fun bt422 => ((evenness_IsEven.f k x0 x1).bind fun bt426 => ((evenness_Transpose.f k x0 x1 1).bind fun bt432 => ((evenness_Rotations.f k x0 x1).bind fun bt436 => ((evenness_Complement.f k x0 x1).bind fun bt440 => ((evenness_Inverse.f k x0 x1).bind fun bt444 => ((evenness_Generator.f k x0 x1).bind fun bt448 => (if bt418.2 = t416 then (if bt422.2 = t416 then (if bt426.2.2.2.2 = t416 then (if bt432.2 = t416 then (if bt436.2 = t416 then (if bt440.2 = t416 then (if bt444.2 = t416 then (if bt448.2.2.2 = t416 then (if bt426.1 = true then (some false) else (if (bt426.2.1 == 0 && (bt426.2.2.1 == 0 && (bt426.2.2.2.1 == 0))) = true then (if bt448.2.2.1 = true then (some false) else (some ((wrap64 ((wrap64 ((wrap64 ((wrap64 ((wrap64 ((bt418.1.length : Int) + (bt422.1.length : Int))) + (bt432.1.length : Int))) + (bt436.1.length : Int))) + (bt440.1.length : Int))) + (bt444.1.length : Int))) == 0))) else (some false))) else (some false)) else (some false)) else (some false)) else (some false)) else (some false)) else (some false)) else (some false)) else (some false))))))))))) else (some false))))
def schismalaw35_EvennessChecks.f (k : Nat) (a0 : Int) (l1 : List Int) : Option (Bool) := (schismalaw35_known.f k).bind fun t414 => (if t414 = true then (schismalaw35_EvennessChecks.j0 k a0 l1 (decide ((l1.length : Int) > 8))) else (schismalaw35_EvennessChecks.j0 k a0 l1 true))
theorem schismalaw35_EvennessChecks.mono_l : ∀ k, (∀ y0 y1 y2, LeO (schismalaw35_EvennessChecks.j0 k y0 y1 y2) (schismalaw35_EvennessChecks.j0 (k + 1) y0 y1 y2))
  | 0 => fun _ _ _ r h => by simp [schismalaw35_EvennessChecks.j0] at h
  | k + 1 => by
    have ih0 := schismalaw35_EvennessChecks.mono_l k
    · intro y0 y1 y2
      unfold schismalaw35_EvennessChecks.j0
      repeat' first
      | (with_reducible exact ih0 _ _ _)
      | (with_reducible exact evenness_Check.mono _ _ _)
      | (with_reducible exact evenness_Complement.mono _ _ _)
      | (with_reducible exact evenness_Generator.mono _ _ _)
      | (with_reducible exact evenness_Inverse.mono _ _ _)
      | (with_reducible exact evenness_IsEven.mono _ _ _)
      | (with_reducible exact evenness_Rotations.mono _ _ _)
      | (with_reducible exact evenness_Spectrum.mono _ _ _ _)
      | (with_reducible exact evenness_Steps.mono _ _ _)
      | (with_reducible exact evenness_Transpose.mono _ _ _ _)
      | (with_reducible exact schismalaw35_check.mono _ _ _)
      | (with_reducible exact schismalaw35_known.mono _)
      | (with_reducible exact LeO.refl _)
      | (with_reducible exact LeO.none _)
      | (with_reducible refine LeO.ite ?_ ?_)
      | (with_reducible refine LeO.bind ?_ (fun _ => ?_))
      | exact ih0 _ _ _
      | exact evenness_Check.mono _ _ _
      | exact evenness_Complement.mono _ _ _
      | exact evenness_Generator.mono _ _ _
      | exact evenness_Inverse.mono _ _ _
      | exact evenness_IsEven.mono _ _ _
      | exact evenness_Rotations.mono _ _ _
      | exact evenness_Spectrum.mono _ _ _ _
      | exact evenness_Steps.mono _ _ _
      | exact evenness_Transpose.mono _ _ _ _
      | exact schismalaw35_check.mono _ _ _
      | exact schismalaw35_known.mono _
      | exact LeO.none _
      | refine LeO.ite ?_ ?_
      | refine LeO.bind ?_ (fun _ => ?_)
theorem schismalaw35_EvennessChecks.mono : ∀ a0 a1 k, LeO (schismalaw35_EvennessChecks.f k a0 a1) (schismalaw35_EvennessChecks.f (k + 1) a0 a1) := by
  intro a0 a1 k
  have ih0 := schismalaw35_EvennessChecks.mono_l k
  unfold schismalaw35_EvennessChecks.f
  repeat' first
      | (with_reducible exact ih0 _ _ _)
      | (with_reducible exact evenness_Check.mono _ _ _)
      | (with_reducible exact evenness_Complement.mono _ _ _)
      | (with_reducible exact evenness_Generator.mono _ _ _)
      | (with_reducible exact evenness_Inverse.mono _ _ _)
      | (with_reducible exact evenness_IsEven.mono _ _ _)
      | (with_reducible exact evenness_Rotations.mono _ _ _)
      | (with_reducible exact evenness_Spectrum.mono _ _ _ _)
      | (with_reducible exact evenness_Steps.mono _ _ _)
      | (with_reducible exact evenness_Transpose.mono _ _ _ _)
      | (with_reducible exact schismalaw35_check.mono _ _ _)
      | (with_reducible exact schismalaw35_known.mono _)
      | (with_reducible exact LeO.refl _)
      | (with_reducible exact LeO.none _)
      | (with_reducible refine LeO.ite ?_ ?_)
      | (with_reducible refine LeO.bind ?_ (fun _ => ?_))
      | exact ih0 _ _ _
      | exact evenness_Check.mono _ _ _
      | exact evenness_Complement.mono _ _ _
      | exact evenness_Generator.mono _ _ _
      | exact evenness_Inverse.mono _ _ _
      | exact evenness_IsEven.mono _ _ _
      | exact evenness_Rotations.mono _ _ _
      | exact evenness_Spectrum.mono _ _ _ _
      | exact evenness_Steps.mono _ _ _
      | exact evenness_Transpose.mono _ _ _ _
      | exact schismalaw35_check.mono _ _ _
      | exact schismalaw35_known.mono _
      | exact LeO.none _
      | refine LeO.ite ?_ ?_
      | refine LeO.bind ?_ (fun _ => ?_)
set_option maxHeartbeats 8000000 in
set_option maxRecDepth 100000 in
theorem schismalaw35_EvennessChecks.calls (k : Nat) (a0 : Int) (A1 : Option Addr) (c1 : Nat) (l1 : List Int) (r : Bool) (w : World) (hr1 : Kd.C (Kd.int .i64) w A1 l1.length l1) (hc1 : l1.length ≤ c1) (h : schismalaw35_EvennessChecks.f k a0 l1 = some r) (hrt : r = true) :
    Calls Try.prog 11 #[.int .i64 a0, .slice A1 l1.length c1] w fun e w' => e = .returned (.bool r) ∧ Below w.heap.size w w' := by
  have hu46 := Try.underlying46
  have HR1 := Am hr1
  have HC1 := Am hc1
  clear hr1 hc1
  have HB := Am (Below.refl w.heap.size w)
  have H : ((schismalaw35_known.f k).bind fun t414 => (if t414 = true then (schismalaw35_EvennessChecks.j0 k a0 l1 (decide ((l1.length : Int) > 8))) else (schismalaw35_EvennessChecks.j0 k a0 l1 true))) = some r := h
  clear h
  have HC3 := Am H
  clear H
  go_enter Try.func11, Try.ntmps11
  go_upto_region 1 with (fail)
  go_cut [31] (fun v31 wc => ∃ (kq : Nat) (x31_2 : Bool), v31 = .bool x31_2 ∧ Aside0 (schismalaw35_EvennessChecks.j0 kq a0 l1 x31_2 = some r) ∧ Aside0 (kq ≤ k) ∧ Aside0 (Below w.heap.size w wc))
  case first =>
    have H := HC3.out
    clear HC3
    replace H := Option.bind_eq_some_iff.mp H
    obtain ⟨t414, A40, H⟩ := H
    replace H : (if t414 = true then (schismalaw35_EvennessChecks.j0 k a0 l1 (decide ((l1.length : Int) > 8))) else (schismalaw35_EvennessChecks.j0 k a0 l1 true)) = some r := H
    have A4 := Am A40
    clear A40
    by_cases c5 : t414 = true
    · subst c5
      have H1 : (schismalaw35_EvennessChecks.j0 k a0 l1 (decide ((l1.length : Int) > 8))) = some r := by rw [if_pos rfl] at H; exact H
      clear H
      have H := H1
      clear H1
      have H' := Am H
      clear H
      go_wp2_with (first | ((with_reducible refine gate_callee (f := 12) rfl ?_); refine goesL_ (some 25) rfl rfl Try.func12 (by kernel_rfl) rfl #[] rfl (by kernel_rfl) ?_; (with_reducible refine (schismalaw35_known.calls k  true _ A4.out).mono ?_); rintro e w6 ⟨rfl, hb⟩; refine ⟨_, rfl, ?_⟩; have n0_ := Am (below_step (by repeat (first | (with_reducible first | exact HB.out | apply bA | apply bN | apply bD) | exact HB.out)) hb); clear HB; have HB := n0_; clear n0_; (try clear hb); (try clear hb2); (try clear hk); (try clear hi)))
      go_meet
      case rel => exact ⟨_, (decide ((l1.length : Int) > 8)), (by first | rfl | (simp; done) | (simp [*]; done)), H', ⟨by first | omega | exact Nat.le_refl _⟩, ⟨by repeat (first | (with_reducible first | exact HB.out | apply bA | apply bN | apply bD) | exact HB.out)⟩⟩
    · replace c5 := Bool.eq_false_iff.mpr c5
      subst c5
      have H1 : (schismalaw35_EvennessChecks.j0 k a0 l1 true) = some r := by rw [if_neg (show ¬ (false = true) by decide)] at H; exact H
      clear H
      have H := H1
      clear H1
      have H' := Am H
      clear H
      go_wp2_with (first | ((with_reducible refine gate_callee (f := 12) rfl ?_); refine goesL_ (some 25) rfl rfl Try.func12 (by kernel_rfl) rfl #[] rfl (by kernel_rfl) ?_; (with_reducible refine (schismalaw35_known.calls k  false _ A4.out).mono ?_); rintro e w7 ⟨rfl, hb⟩; refine ⟨_, rfl, ?_⟩; have n0_ := Am (below_step (by repeat (first | (with_reducible first | exact HB.out | apply bA | apply bN | apply bD) | exact HB.out)) hb); clear HB; have HB := n0_; clear n0_; (try clear hb); (try clear hb2); (try clear hk); (try clear hi)))
      go_meet
      case rel => exact ⟨_, (true), (by first | rfl | (simp; done) | (simp [*]; done)), H', ⟨by first | omega | exact Nat.le_refl _⟩, ⟨by repeat (first | (with_reducible first | exact HB.out | apply bA | apply bN | apply bD) | exact HB.out)⟩⟩
  case rest =>
    clear HC3
    try clear c1
    try clear p2
    try clear c5
    obtain ⟨kq, x31_2, rfl, HA, HJ2, HB⟩ := hcut
    cases kq with
    | zero => exact absurd HA.out (by simp [schismalaw35_EvennessChecks.j0])
    | succ kj2 =>
      have H := HA.out
      clear HA
      simp only [schismalaw35_EvennessChecks.j0] at H
      by_cases c8 : x31_2 = true
      · subst c8
        have H1 : ((schismalaw35_known.f kj2).bind fun t415 => (some t415)) = some r := by rw [if_pos rfl] at H; exact H
        clear H
        have H := H1
        clear H1
        replace H := Option.bind_eq_some_iff.mp H
        obtain ⟨t415, A90, H⟩ := H
        replace H : (some t415) = some r := H
        have A9 := Am A90
        clear A90
        obtain rfl := Option.some.inj H
        go_wp2_with (first | ((with_reducible refine gate_callee (f := 12) rfl ?_); refine goesL_ (some 32) rfl rfl Try.func12 (by kernel_rfl) rfl #[] rfl (by kernel_rfl) ?_; (with_reducible refine (schismalaw35_known.calls kj2  t415 _ A9.out).mono ?_); rintro e w10 ⟨rfl, hb⟩; refine ⟨_, rfl, ?_⟩; have n0_ := Am (below_step (by repeat (first | (with_reducible first | exact HB.out | apply bA | apply bN | apply bD) | exact HB.out)) hb); clear HB; have HB := n0_; clear n0_; (try clear hb); (try clear hb2); (try clear hk); (try clear hi)))
        go_ret
        exact ⟨by first | rfl | (simp [errW_none, errW_some] <;> rfl) | (simp [*, errW_none, errW_some] <;> rfl), by repeat (first | (with_reducible first | exact HB.out | apply bA | apply bN | apply bD) | exact HB.out)⟩
      · replace c8 := Bool.eq_false_iff.mpr c8
        subst c8
        have H1 : ((schismalaw35_check.f kj2 a0 l1).bind fun t416 => ((evenness_Check.f kj2 a0 l1).bind fun t417 => (if t417 = t416 then (if t416 = 0 then (some true) else ((evenness_Steps.f kj2 a0 l1).bind fun bt418 => ((evenness_Spectrum.f kj2 a0 l1 0).bind fun bt422 => ((evenness_IsEven.f kj2 a0 l1).bind fun bt426 => ((evenness_Transpose.f kj2 a0 l1 1).bind fun bt432 => ((evenness_Rotations.f kj2 a0 l1).bind fun bt436 => ((evenness_Complement.f kj2 a0 l1).bind fun bt440 => ((evenness_Inverse.f kj2 a0 l1).bind fun bt444 => ((evenness_Generator.f kj2 a0 l1).bind fun bt448 => (if bt418.2 = t416 then (if bt422.2 = t416 then (if bt426.2.2.2.2 = t416 then (if bt432.2 = t416 then (if bt436.2 = t416 then (if bt440.2 = t416 then (if bt444.2 = t416 then (if bt448.2.2.2 = t416 then (if bt426.1 = true then (some false) else (if (bt426.2.1 == 0 && (bt426.2.2.1 == 0 && (bt426.2.2.2.1 == 0))) = true then (if bt448.2.2.1 = true then (some false) else (some ((wrap64 ((wrap64 ((wrap64 ((wrap64 ((wrap64 ((bt418.1.length : Int) + (bt422.1.length : Int))) + (bt432.1.length : Int))) + (bt436.1.length : Int))) + (bt440.1.length : Int))) + (bt444.1.length : Int))) == 0))) else (some false))) else (some false)) else (some false)) else (some false)) else (some false)) else (some false)) else (some false)) else (some false)) else (some false))))))))))) else (some false)))) = some r := by rw [if_neg (show ¬ (false = true) by decide)] at H; exact H
        clear H
        have H := H1
        clear H1
        replace H := Option.bind_eq_some_iff.mp H
        obtain ⟨t416, A110, H⟩ := H
        replace H : ((evenness_Check.f kj2 a0 l1).bind fun t417 => (if t417 = t416 then (if t416 = 0 then (some true) else ((evenness_Steps.f kj2 a0 l1).bind fun bt418 => ((evenness_Spectrum.f kj2 a0 l1 0).bind fun bt422 => ((evenness_IsEven.f kj2 a0 l1).bind fun bt426 => ((evenness_Transpose.f kj2 a0 l1 1).bind fun bt432 => ((evenness_Rotations.f kj2 a0 l1).bind fun bt436 => ((evenness_Complement.f kj2 a0 l1).bind fun bt440 => ((evenness_Inverse.f kj2 a0 l1).bind fun bt444 => ((evenness_Generator.f kj2 a0 l1).bind fun bt448 => (if bt418.2 = t416 then (if bt422.2 = t416 then (if bt426.2.2.2.2 = t416 then (if bt432.2 = t416 then (if bt436.2 = t416 then (if bt440.2 = t416 then (if bt444.2 = t416 then (if bt448.2.2.2 = t416 then (if bt426.1 = true then (some false) else (if (bt426.2.1 == 0 && (bt426.2.2.1 == 0 && (bt426.2.2.2.1 == 0))) = true then (if bt448.2.2.1 = true then (some false) else (some ((wrap64 ((wrap64 ((wrap64 ((wrap64 ((wrap64 ((bt418.1.length : Int) + (bt422.1.length : Int))) + (bt432.1.length : Int))) + (bt436.1.length : Int))) + (bt440.1.length : Int))) + (bt444.1.length : Int))) == 0))) else (some false))) else (some false)) else (some false)) else (some false)) else (some false)) else (some false)) else (some false)) else (some false)) else (some false))))))))))) else (some false))) = some r := H
        have A11 := Am A110
        clear A110
        replace H := Option.bind_eq_some_iff.mp H
        obtain ⟨t417, A120, H⟩ := H
        replace H : (if t417 = t416 then (if t416 = 0 then (some true) else ((evenness_Steps.f kj2 a0 l1).bind fun bt418 => ((evenness_Spectrum.f kj2 a0 l1 0).bind fun bt422 => ((evenness_IsEven.f kj2 a0 l1).bind fun bt426 => ((evenness_Transpose.f kj2 a0 l1 1).bind fun bt432 => ((evenness_Rotations.f kj2 a0 l1).bind fun bt436 => ((evenness_Complement.f kj2 a0 l1).bind fun bt440 => ((evenness_Inverse.f kj2 a0 l1).bind fun bt444 => ((evenness_Generator.f kj2 a0 l1).bind fun bt448 => (if bt418.2 = t416 then (if bt422.2 = t416 then (if bt426.2.2.2.2 = t416 then (if bt432.2 = t416 then (if bt436.2 = t416 then (if bt440.2 = t416 then (if bt444.2 = t416 then (if bt448.2.2.2 = t416 then (if bt426.1 = true then (some false) else (if (bt426.2.1 == 0 && (bt426.2.2.1 == 0 && (bt426.2.2.2.1 == 0))) = true then (if bt448.2.2.1 = true then (some false) else (some ((wrap64 ((wrap64 ((wrap64 ((wrap64 ((wrap64 ((bt418.1.length : Int) + (bt422.1.length : Int))) + (bt432.1.length : Int))) + (bt436.1.length : Int))) + (bt440.1.length : Int))) + (bt444.1.length : Int))) == 0))) else (some false))) else (some false)) else (some false)) else (some false)) else (some false)) else (some false)) else (some false)) else (some false)) else (some false))))))))))) else (some false)) = some r := H
        have A12 := Am A120
        clear A120
        by_cases c13 : t417 = t416
        · rw [if_pos c13] at H
          have c13b0 : (t417 == t416) = true := beq_iff_eq.mpr c13
          have c13b1 : (t417 != t416) = false := bne_eq_false_iff_eq.mpr c13
          clear c13
          by_cases c14 : t416 = 0
          · rw [if_pos c14] at H
            have c14b0 : (t416 == 0) = true := beq_iff_eq.mpr c14
            have c14b1 : (t416 != 0) = false := bne_eq_false_iff_eq.mpr c14
            clear c14
            obtain rfl := Option.some.inj H
            go_wp2_with (first | ((with_reducible refine gate_callee (f := 36) rfl ?_); refine goesL_ (some 35) rfl rfl Try.func36 (by kernel_rfl) rfl #[.int .i64 a0, .slice A1 l1.length c1] rfl (by kernel_rfl) ?_; (with_reducible refine (schismalaw35_check.calls kj2 a0 _ _ l1 t416 _ ?side1 ?side2 A11.out).mono ?_); (case side1 => repeat (first | exact (Kd.C_below HR1.out HB.out) | (with_reducible refine Kd.C_alloc ?_ _) | (with_reducible refine Kd.C_drewN ?_ _) | (with_reducible refine Kd.C_drew ?_))); (case side2 => exact HC1.out); rintro e w' ⟨rfl, ⟨nd, rfl⟩⟩; refine ⟨_, rfl, ?_⟩) | ((with_reducible refine gate_callee (f := 37) rfl ?_); refine goesL_ (some 38) rfl rfl Try.func37 (by kernel_rfl) rfl #[.int .i64 a0, .slice A1 l1.length c1] rfl (by kernel_rfl) ?_; (with_reducible refine (evenness_Check.calls kj2 a0 _ _ l1 t417 _ ?side1 ?side2 A12.out).mono ?_); (case side1 => repeat (first | exact (Kd.C_below HR1.out (by repeat (first | (with_reducible first | exact HB.out | apply bA | apply bN | apply bD) | exact HB.out))) | (with_reducible refine Kd.C_alloc ?_ _) | (with_reducible refine Kd.C_drewN ?_ _) | (with_reducible refine Kd.C_drew ?_))); (case side2 => exact HC1.out); rintro e w' ⟨rfl, ⟨nd, rfl⟩⟩; refine ⟨_, rfl, ?_⟩))
            go_ret
            exact ⟨by first | rfl | (simp [errW_none, errW_some] <;> rfl) | (simp [*, errW_none, errW_some] <;> rfl), by repeat (first | (with_reducible first | exact HB.out | apply bA | apply bN | apply bD) | exact HB.out)⟩
          · rw [if_neg c14] at H
            have c14b0 : (t416 == 0) = false := beq_eq_false_iff_ne.mpr c14
            have c14b1 : (t416 != 0) = true := bne_iff_ne.mpr c14
            replace H := Option.bind_eq_some_iff.mp H
            obtain ⟨⟨t418, t419⟩, A150, H⟩ := H
            replace H : ((evenness_Spectrum.f kj2 a0 l1 0).bind fun bt422 => ((evenness_IsEven.f kj2 a0 l1).bind fun bt426 => ((evenness_Transpose.f kj2 a0 l1 1).bind fun bt432 => ((evenness_Rotations.f kj2 a0 l1).bind fun bt436 => ((evenness_Complement.f kj2 a0 l1).bind fun bt440 => ((evenness_Inverse.f kj2 a0 l1).bind fun bt444 => ((evenness_Generator.f kj2 a0 l1).bind fun bt448 => (if t419 = t416 then (if bt422.2 = t416 then (if bt426.2.2.2.2 = t416 then (if bt432.2 = t416 then (if bt436.2 = t416 then (if bt440.2 = t416 then (if bt444.2 = t416 then (if bt448.2.2.2 = t416 then (if bt426.1 = true then (some false) else (if (bt426.2.1 == 0 && (bt426.2.2.1 == 0 && (bt426.2.2.2.1 == 0))) = true then (if bt448.2.2.1 = true then (some false) else (some ((wrap64 ((wrap64 ((wrap64 ((wrap64 ((wrap64 ((t418.length : Int) + (bt422.1.length : Int))) + (bt432.1.length : Int))) + (bt436.1.length : Int))) + (bt440.1.length : Int))) + (bt444.1.length : Int))) == 0))) else (some false))) else (some false)) else (some false)) else (some false)) else (some false)) else (some false)) else (some false)) else (some false)) else (some false))))))))) = some r := H
            have A15 := Am A150
            clear A150
            replace H := Option.bind_eq_some_iff.mp H
            obtain ⟨⟨t422, t423⟩, A160, H⟩ := H
            replace H : ((evenness_IsEven.f kj2 a0 l1).bind fun bt426 => ((evenness_Transpose.f kj2 a0 l1 1).bind fun bt432 => ((evenness_Rotations.f kj2 a0 l1).bind fun bt436 => ((evenness_Complement.f kj2 a0 l1).bind fun bt440 => ((evenness_Inverse.f kj2 a0 l1).bind fun bt444 => ((evenness_Generator.f kj2 a0 l1).bind fun bt448 => (if t419 = t416 then (if t423 = t416 then (if bt426.2.2.2.2 = t416 then (if bt432.2 = t416 then (if bt436.2 = t416 then (if bt440.2 = t416 then (if bt444.2 = t416 then (if bt448.2.2.2 = t416 then (if bt426.1 = true then (some false) else (if (bt426.2.1 == 0 && (bt426.2.2.1 == 0 && (bt426.2.2.2.1 == 0))) = true then (if bt448.2.2.1 = true then (some false) else (some ((wrap64 ((wrap64 ((wrap64 ((wrap64 ((wrap64 ((t418.length : Int) + (t422.length : Int))) + (bt432.1.length : Int))) + (bt436.1.length : Int))) + (bt440.1.length : Int))) + (bt444.1.length : Int))) == 0))) else (some false))) else (some false)) else (some false)) else (some false)) else (some false)) else (some false)) else (some false)) else (some false)) else (some false)))))))) = some r := H
            have A16 := Am A160
            clear A160
            replace H := Option.bind_eq_some_iff.mp H
            obtain ⟨⟨t426, t427, t428, t429, t430⟩, A170, H⟩ := H
            replace H : ((evenness_Transpose.f kj2 a0 l1 1).bind fun bt432 => ((evenness_Rotations.f kj2 a0 l1).bind fun bt436 => ((evenness_Complement.f kj2 a0 l1).bind fun bt440 => ((evenness_Inverse.f kj2 a0 l1).bind fun bt444 => ((evenness_Generator.f kj2 a0 l1).bind fun bt448 => (if t419 = t416 then (if t423 = t416 then (if t430 = t416 then (if bt432.2 = t416 then (if bt436.2 = t416 then (if bt440.2 = t416 then (if bt444.2 = t416 then (if bt448.2.2.2 = t416 then (if t426 = true then (some false) else (if (t427 == 0 && (t428 == 0 && (t429 == 0))) = true then (if bt448.2.2.1 = true then (some false) else (some ((wrap64 ((wrap64 ((wrap64 ((wrap64 ((wrap64 ((t418.length : Int) + (t422.length : Int))) + (bt432.1.length : Int))) + (bt436.1.length : Int))) + (bt440.1.length : Int))) + (bt444.1.length : Int))) == 0))) else (some false))) else (some false)) else (some false)) else (some false)) else (some false)) else (some false)) else (some false)) else (some false)) else (some false))))))) = some r := H
            have A17 := Am A170
            clear A170
            replace H := Option.bind_eq_some_iff.mp H
            obtain ⟨⟨t432, t433⟩, A180, H⟩ := H
            replace H : ((evenness_Rotations.f kj2 a0 l1).bind fun bt436 => ((evenness_Complement.f kj2 a0 l1).bind fun bt440 => ((evenness_Inverse.f kj2 a0 l1).bind fun bt444 => ((evenness_Generator.f kj2 a0 l1).bind fun bt448 => (if t419 = t416 then (if t423 = t416 then (if t430 = t416 then (if t433 = t416 then (if bt436.2 = t416 then (if bt440.2 = t416 then (if bt444.2 = t416 then (if bt448.2.2.2 = t416 then (if t426 = true then (some false) else (if (t427 == 0 && (t428 == 0 && (t429 == 0))) = true then (if bt448.2.2.1 = true then (some false) else (some ((wrap64 ((wrap64 ((wrap64 ((wrap64 ((wrap64 ((t418.length : Int) + (t422.length : Int))) + (t432.length : Int))) + (bt436.1.length : Int))) + (bt440.1.length : Int))) + (bt444.1.length : Int))) == 0))) else (some false))) else (some false)) else (some false)) else (some false)) else (some false)) else (some false)) else (some false)) else (some false)) else (some false)))))) = some r := H
            have A18 := Am A180
            clear A180
            replace H := Option.bind_eq_some_iff.mp H
            obtain ⟨⟨t436, t437⟩, A190, H⟩ := H
            replace H : ((evenness_Complement.f kj2 a0 l1).bind fun bt440 => ((evenness_Inverse.f kj2 a0 l1).bind fun bt444 => ((evenness_Generator.f kj2 a0 l1).bind fun bt448 => (if t419 = t416 then (if t423 = t416 then (if t430 = t416 then (if t433 = t416 then (if t437 = t416 then (if bt440.2 = t416 then (if bt444.2 = t416 then (if bt448.2.2.2 = t416 then (if t426 = true then (some false) else (if (t427 == 0 && (t428 == 0 && (t429 == 0))) = true then (if bt448.2.2.1 = true then (some false) else (some ((wrap64 ((wrap64 ((wrap64 ((wrap64 ((wrap64 ((t418.length : Int) + (t422.length : Int))) + (t432.length : Int))) + (t436.length : Int))) + (bt440.1.length : Int))) + (bt444.1.length : Int))) == 0))) else (some false))) else (some false)) else (some false)) else (some false)) else (some false)) else (some false)) else (some false)) else (some false)) else (some false))))) = some r := H
            have A19 := Am A190
            clear A190
            replace H := Option.bind_eq_some_iff.mp H
            obtain ⟨⟨t440, t441⟩, A200, H⟩ := H
            replace H : ((evenness_Inverse.f kj2 a0 l1).bind fun bt444 => ((evenness_Generator.f kj2 a0 l1).bind fun bt448 => (if t419 = t416 then (if t423 = t416 then (if t430 = t416 then (if t433 = t416 then (if t437 = t416 then (if t441 = t416 then (if bt444.2 = t416 then (if bt448.2.2.2 = t416 then (if t426 = true then (some false) else (if (t427 == 0 && (t428 == 0 && (t429 == 0))) = true then (if bt448.2.2.1 = true then (some false) else (some ((wrap64 ((wrap64 ((wrap64 ((wrap64 ((wrap64 ((t418.length : Int) + (t422.length : Int))) + (t432.length : Int))) + (t436.length : Int))) + (t440.length : Int))) + (bt444.1.length : Int))) == 0))) else (some false))) else (some false)) else (some false)) else (some false)) else (some false)) else (some false)) else (some false)) else (some false)) else (some false)))) = some r := H
            have A20 := Am A200
            clear A200
            replace H := Option.bind_eq_some_iff.mp H
            obtain ⟨⟨t444, t445⟩, A210, H⟩ := H
            replace H : ((evenness_Generator.f kj2 a0 l1).bind fun bt448 => (if t419 = t416 then (if t423 = t416 then (if t430 = t416 then (if t433 = t416 then (if t437 = t416 then (if t441 = t416 then (if t445 = t416 then (if bt448.2.2.2 = t416 then (if t426 = true then (some false) else (if (t427 == 0 && (t428 == 0 && (t429 == 0))) = true then (if bt448.2.2.1 = true then (some false) else (some ((wrap64 ((wrap64 ((wrap64 ((wrap64 ((wrap64 ((t418.length : Int) + (t422.length : Int))) + (t432.length : Int))) + (t436.length : Int))) + (t440.length : Int))) + (t444.length : Int))) == 0))) else (some false))) else (some false)) else (some false)) else (some false)) else (some false)) else (some false)) else (some false)) else (some false)) else (some false))) = some r := H
            have A21 := Am A210
            clear A210
            replace H := Option.bind_eq_some_iff.mp H
            obtain ⟨⟨t448, t449, t450, t451⟩, A220, H⟩ := H
            replace H : (if t419 = t416 then (if t423 = t416 then (if t430 = t416 then (if t433 = t416 then (if t437 = t416 then (if t441 = t416 then (if t445 = t416 then (if t451 = t416 then (if t426 = true then (some false) else (if (t427 == 0 && (t428 == 0 && (t429 == 0))) = true then (if t450 = true then (some false) else (some ((wrap64 ((wrap64 ((wrap64 ((wrap64 ((wrap64 ((t418.length : Int) + (t422.length : Int))) + (t432.length : Int))) + (t436.length : Int))) + (t440.length : Int))) + (t444.length : Int))) == 0))) else (some false))) else (some false)) else (some false)) else (some false)) else (some false)) else (some false)) else (some false)) else (some false)) else (some false)) = some r := H
            have A22 := Am A220
            clear A220
            by_cases c23 : t419 = t416
            · rw [if_pos c23] at H
              have c23b0 : (t419 == t416) = true := beq_iff_eq.mpr c23
              have c23b1 : (t419 != t416) = false := bne_eq_false_iff_eq.mpr c23
              clear c23
              by_cases c24 : t423 = t416
              · rw [if_pos c24] at H
                have c24b0 : (t423 == t416) = true := beq_iff_eq.mpr c24
                have c24b1 : (t423 != t416) = false := bne_eq_false_iff_eq.mpr c24
                clear c24
                by_cases c25 : t430 = t416
                · rw [if_pos c25] at H
                  have c25b0 : (t430 == t416) = true := beq_iff_eq.mpr c25
                  have c25b1 : (t430 != t416) = false := bne_eq_false_iff_eq.mpr c25
                  clear c25
                  by_cases c26 : t433 = t416
                  · rw [if_pos c26] at H
                    have c26b0 : (t433 == t416) = true := beq_iff_eq.mpr c26
                    have c26b1 : (t433 != t416) = false := bne_eq_false_iff_eq.mpr c26
                    clear c26
                    by_cases c27 : t437 = t416
                    · rw [if_pos c27] at H
                      have c27b0 : (t437 == t416) = true := beq_iff_eq.mpr c27
                      have c27b1 : (t437 != t416) = false := bne_eq_false_iff_eq.mpr c27
                      clear c27
                      by_cases c28 : t441 = t416
                      · rw [if_pos c28] at H
                        have c28b0 : (t441 == t416) = true := beq_iff_eq.mpr c28
                        have c28b1 : (t441 != t416) = false := bne_eq_false_iff_eq.mpr c28
                        clear c28
                        by_cases c29 : t445 = t416
                        · rw [if_pos c29] at H
                          have c29b0 : (t445 == t416) = true := beq_iff_eq.mpr c29
                          have c29b1 : (t445 != t416) = false := bne_eq_false_iff_eq.mpr c29
                          clear c29
                          by_cases c30 : t451 = t416
                          · rw [if_pos c30] at H
                            have c30b0 : (t451 == t416) = true := beq_iff_eq.mpr c30
                            have c30b1 : (t451 != t416) = false := bne_eq_false_iff_eq.mpr c30
                            clear c30
                            by_cases c31 : t426 = true
                            · subst c31
                              have H1 : (some false) = some r := by rw [if_pos rfl] at H; exact H
                              clear H
                              have H := H1
                              clear H1
                              exact absurd (Option.some.inj H) (by rw [hrt]; decide)
                            · replace c31 := Bool.eq_false_iff.mpr c31
                              subst c31
                              have H1 : (if (t427 == 0 && (t428 == 0 && (t429 == 0))) = true then (if t450 = true then (some false) else (some ((wrap64 ((wrap64 ((wrap64 ((wrap64 ((wrap64 ((t418.length : Int) + (t422.length : Int))) + (t432.length : Int))) + (t436.length : Int))) + (t440.length : Int))) + (t444.length : Int))) == 0))) else (some false)) = some r := by rw [if_neg (show ¬ (false = true) by decide)] at H; exact H
                              clear H
                              have H := H1
                              clear H1
                              by_cases c42 : (t427 == 0 && (t428 == 0 && (t429 == 0))) = true
                              · rw [if_pos c42] at H
                                have c42b0 : (t427 == 0 && (t428 == 0 && (t429 == 0))) = true := c42
                                (try (have c42b1 : decide (t427 = 0 && (t428 == 0 && (t429 == 0))) = true := by simpa using c42))
                                (try (have c42b2 : (t427 == 0 && (t428 == 0 && (t429 == 0))) = true := by simpa using c42))
                                clear c42
                                by_cases c43 : t450 = true
                                · subst c43
                                  have H1 : (some false) = some r := by rw [if_pos rfl] at H; exact H
                                  clear H
                                  have H := H1
                                  clear H1
                                  exact absurd (Option.some.inj H) (by rw [hrt]; decide)
                                · replace c43 := Bool.eq_false_iff.mpr c43
                                  subst c43
                                  have H1 : (some ((wrap64 ((wrap64 ((wrap64 ((wrap64 ((wrap64 ((t418.length : Int) + (t422.length : Int))) + (t432.length : Int))) + (t436.length : Int))) + (t440.length : Int))) + (t444.length : Int))) == 0)) = some r := by rw [if_neg (show ¬ (false = true) by decide)] at H; exact H
                                  clear H
                                  have H := H1
                                  clear H1
                                  obtain rfl := Option.some.inj H
                                  go_wp2_with (first | ((with_reducible refine gate_callee (f := 36) rfl ?_); refine goesL_ (some 35) rfl rfl Try.func36 (by kernel_rfl) rfl #[.int .i64 a0, .slice A1 l1.length c1] rfl (by kernel_rfl) ?_; (with_reducible refine (schismalaw35_check.calls kj2 a0 _ _ l1 t416 _ ?side1 ?side2 A11.out).mono ?_); (case side1 => repeat (first | exact (Kd.C_below HR1.out HB.out) | (with_reducible refine Kd.C_alloc ?_ _) | (with_reducible refine Kd.C_drewN ?_ _) | (with_reducible refine Kd.C_drew ?_))); (case side2 => exact HC1.out); rintro e w' ⟨rfl, ⟨nd, rfl⟩⟩; refine ⟨_, rfl, ?_⟩; (try (rw [drewN_self wc]; generalize hq_ : World.drewN wc _ = wc; have n0_ : Aside0 (Below w.heap.size w wc) := ⟨by rw [← hq_]; exact (by repeat (first | (with_reducible first | exact HB.out | apply bA | apply bN | apply bD) | exact HB.out))⟩; clear HB hq_; have HB := n0_; clear n0_))) | ((with_reducible refine gate_callee (f := 37) rfl ?_); refine goesL_ (some 38) rfl rfl Try.func37 (by kernel_rfl) rfl #[.int .i64 a0, .slice A1 l1.length c1] rfl (by kernel_rfl) ?_; (with_reducible refine (evenness_Check.calls kj2 a0 _ _ l1 t417 _ ?side1 ?side2 A12.out).mono ?_); (case side1 => repeat (first | exact (Kd.C_below HR1.out HB.out) | (with_reducible refine Kd.C_alloc ?_ _) | (with_reducible refine Kd.C_drewN ?_ _) | (with_reducible refine Kd.C_drew ?_))); (case side2 => exact HC1.out); rintro e w' ⟨rfl, ⟨nd, rfl⟩⟩; refine ⟨_, rfl, ?_⟩; (try (rw [drewN_self wc]; generalize hq_ : World.drewN wc _ = wc; have n0_ : Aside0 (Below w.heap.size w wc) := ⟨by rw [← hq_]; exact (by repeat (first | (with_reducible first | exact HB.out | apply bA | apply bN | apply bD) | exact HB.out))⟩; clear HB hq_; have HB := n0_; clear n0_))) | ((with_reducible refine gate_callee (f := 29) rfl ?_); refine goesL_ (some 46) rfl rfl Try.func29 (by kernel_rfl) rfl #[.int .i64 a0, .slice A1 l1.length c1] rfl (by kernel_rfl) ?_; (with_reducible refine (evenness_Steps.calls kj2 a0 _ _ l1 t418 t419 _ ?side1 ?side2 A15.out).mono ?_); (case side1 => repeat (first | exact (Kd.C_below HR1.out HB.out) | (with_reducible refine Kd.C_alloc ?_ _) | (with_reducible refine Kd.C_drewN ?_ _) | (with_reducible refine Kd.C_drew ?_))); (case side2 => exact HC1.out); rintro e w55 ⟨v420, rfl, ho0, hb⟩; refine ⟨_, rfl, ?_⟩; have n0_ := Am (Kd.R_lower ho0 (below_size (by repeat (first | (with_reducible first | exact HB.out | apply bA | apply bN | apply bD) | exact HB.out)))); have n1_ := Am (below_step (by repeat (first | (with_reducible first | exact HB.out | apply bA | apply bN | apply bD) | exact HB.out)) hb); clear HB; have HO421 := n0_; have HB := n1_; clear n0_ n1_; (try clear hb); (try clear hb2); (try clear hk); (try clear hi); (try clear ho0)) | ((with_reducible refine gate_callee (f := 28) rfl ?_); refine goesL_ (some 52) rfl rfl Try.func28 (by kernel_rfl) rfl #[.int .i64 a0, .slice A1 l1.length c1, .int .i64 0] rfl (by kernel_rfl) ?_; (with_reducible refine (evenness_Spectrum.calls kj2 a0 _ _ l1 0 t422 t423 _ ?side1 ?side2 A16.out).mono ?_); (case side1 => repeat (first | exact (Kd.C_below HR1.out HB.out) | (with_reducible refine Kd.C_alloc ?_ _) | (with_reducible refine Kd.C_drewN ?_ _) | (with_reducible refine Kd.C_drew ?_))); (case side2 => exact HC1.out); rintro e w56 ⟨v424, rfl, ho0, hb⟩; refine ⟨_, rfl, ?_⟩; have n0_ := Am (Kd.R_elder' (by (with_reducible repeat (first | apply Kd.R_alloc | apply Kd.R_drewN | apply Kd.R_drew)); exact HO421.out) (Kd.R_base ho0) hb); have n1_ := Am (Kd.R_lower (Kd.R_new' ho0 (Kd.R_lt (by (with_reducible repeat (first | apply Kd.R_alloc | apply Kd.R_drewN | apply Kd.R_drew)); exact HO421.out))) (below_size (by repeat (first | (with_reducible first | exact HB.out | apply bA | apply bN | apply bD) | exact HB.out)))); have n2_ := Am (below_step (by repeat (first | (with_reducible first | exact HB.out | apply bA | apply bN | apply bD) | exact HB.out)) hb); clear HO421; clear HB; have HO421 := n0_; have HO425 := n1_; have HB := n2_; clear n0_ n1_ n2_; (try clear hb); (try clear hb2); (try clear hk); (try clear hi); (try clear ho0)) | ((with_reducible refine gate_callee (f := 27) rfl ?_); refine goesL_ (some 58) rfl rfl Try.func27 (by kernel_rfl) rfl #[.int .i64 a0, .slice A1 l1.length c1] rfl (by kernel_rfl) ?_; (with_reducible refine (evenness_IsEven.calls kj2 a0 _ _ l1 false t427 t428 t429 t430 _ ?side1 ?side2 A17.out).mono ?_); (case side1 => repeat (first | exact (Kd.C_below HR1.out HB.out) | (with_reducible refine Kd.C_alloc ?_ _) | (with_reducible refine Kd.C_drewN ?_ _) | (with_reducible refine Kd.C_drew ?_))); (case side2 => exact HC1.out); rintro e w57 ⟨rfl, hb⟩; refine ⟨_, rfl, ?_⟩; have n0_ := Am (Kd.R_below (by (with_reducible repeat (first | apply Kd.R_alloc | apply Kd.R_drewN | apply Kd.R_drew)); exact HO421.out) hb); have n1_ := Am (Kd.R_below (by (with_reducible repeat (first | apply Kd.R_alloc | apply Kd.R_drewN | apply Kd.R_drew)); exact HO425.out) hb); have n2_ := Am (below_step (by repeat (first | (with_reducible first | exact HB.out | apply bA | apply bN | apply bD) | exact HB.out)) hb); clear HO421; clear HO425; clear HB; have HO421 := n0_; have HO425 := n1_; have HB := n2_; clear n0_ n1_ n2_; (try clear hb); (try clear hb2); (try clear hk); (try clear hi)) | ((with_reducible refine gate_dst (N := 11) rfl ?_); (try (refine gate_guard (by rfl) ?_; dsimp only)); refine box_event ?hg (N := 11) ?hd (cs := #[.int .i64 0, .int .i64 0, .int .i64 0]) (t := 46) ?hr ?_; (case hd => rfl); (case hg => rfl); (case hr => first | (go_simp; done) | (go_simp; rfl)); intro gb431 hg w58 hbox hb; have n0_ := Am (Kd.R_below (by (with_reducible repeat (first | apply Kd.R_alloc | apply Kd.R_drewN | apply Kd.R_drew)); exact HO421.out) hb); have n1_ := Am (Kd.R_below (by (with_reducible repeat (first | apply Kd.R_alloc | apply Kd.R_drewN | apply Kd.R_drew)); exact HO425.out) hb); have n2_ := Am (below_step (by repeat (first | (with_reducible first | exact HB.out | apply bA | apply bN | apply bD) | exact HB.out)) hb); have n3_ := Am (hbox); have n4_ := Am ((by rw [hg]; exact (below_size (by repeat (first | (with_reducible first | exact HB.out | apply bA | apply bN | apply bD) | exact HB.out))) : w.heap.size ≤ gb431)); have n5_ := Am ((by rw [hg]; exact (below_size (by repeat (first | (with_reducible first | exact HB.out | apply bA | apply bN | apply bD) | exact HB.out))) : w.heap.size ≤ gb431)); clear HO421; clear HO425; clear HB; have HO421 := n0_; have HO425 := n1_; have HB := n2_; have BK431 := n3_; have GW431 := n4_; have GE431 := n5_; clear n0_ n1_ n2_ n3_ n4_ n5_; clear hb hbox hg; have hcz59_0 : w58.cell? ⟨gb431, 0, none⟩ = some (.int .i64 0) := (blk_cell BK431.out 0).trans rfl; have hcz59_1 : w58.cell? ⟨gb431, 1, none⟩ = some (.int .i64 0) := (blk_cell BK431.out 1).trans rfl; have hcz59_2 : w58.cell? ⟨gb431, 2, none⟩ = some (.int .i64 0) := (blk_cell BK431.out 2).trans rfl; have hfz59_0 := blk_frozen BK431.out 0; have hfz59_1 := blk_frozen BK431.out 1; have hfz59_2 := blk_frozen BK431.out 2) | ((with_reducible refine gate_callee (f := 23) rfl ?_); refine goesL_ (some 65) rfl rfl Try.func23 (by kernel_rfl) rfl #[.int .i64 a0, .slice A1 l1.length c1, .int .i64 1] rfl (by kernel_rfl) ?_; (with_reducible refine (evenness_Transpose.calls kj2 a0 _ _ l1 1 t432 t433 _ ?side1 ?side2 A18.out).mono ?_); (case side1 => exact Kd.C_below HR1.out (by repeat (first | (with_reducible first | exact HB.out | apply bA | apply bN | apply bD | refine below_set ?_ GE431.out) | exact HB.out))); (case side2 => exact HC1.out); rintro e w60 ⟨v434, rfl, ho0, hb⟩; refine ⟨_, rfl, ?_⟩; have n0_ := Am (Kd.R_elder' (by (with_reducible repeat (first | apply Kd.R_alloc | apply Kd.R_drewN | apply Kd.R_drew)); exact (Kd.R_mono (Kd.R_far (p := ⟨gb431, 2, none⟩) (Kd.R_far (p := ⟨gb431, 1, none⟩) (Kd.R_far (p := ⟨gb431, 0, none⟩) (Kd.R_types HO421.out BK431.out (by decide)) (fun _ hk => hk.2) (.int .i64 t427)) (fun _ hk => hk.2) (.int .i64 t428)) (fun _ hk => hk.2) (.int .i64 t429)) (fun _ h_ => h_.1))) (Kd.R_base ho0) hb); have n1_ := Am (Kd.R_elder' (by (with_reducible repeat (first | apply Kd.R_alloc | apply Kd.R_drewN | apply Kd.R_drew)); exact (Kd.R_mono (Kd.R_far (p := ⟨gb431, 2, none⟩) (Kd.R_far (p := ⟨gb431, 1, none⟩) (Kd.R_far (p := ⟨gb431, 0, none⟩) (Kd.R_types HO425.out BK431.out (by decide)) (fun _ hk => hk.2) (.int .i64 t427)) (fun _ hk => hk.2) (.int .i64 t428)) (fun _ hk => hk.2) (.int .i64 t429)) (fun _ h_ => h_.1))) (Kd.R_base ho0) hb); have n2_ := Am (Kd.R_lower (Kd.R_new' (Kd.R_new' ho0 (Kd.R_lt (by (with_reducible repeat (first | apply Kd.R_alloc | apply Kd.R_drewN | apply Kd.R_drew)); exact (Kd.R_mono (Kd.R_far (p := ⟨gb431, 2, none⟩) (Kd.R_far (p := ⟨gb431, 1, none⟩) (Kd.R_far (p := ⟨gb431, 0, none⟩) (Kd.R_types HO421.out BK431.out (by decide)) (fun _ hk => hk.2) (.int .i64 t427)) (fun _ hk => hk.2) (.int .i64 t428)) (fun _ hk => hk.2) (.int .i64 t429)) (fun _ h_ => h_.1))))) (Kd.R_lt (by (with_reducible repeat (first | apply Kd.R_alloc | apply Kd.R_drewN | apply Kd.R_drew)); exact (Kd.R_mono (Kd.R_far (p := ⟨gb431, 2, none⟩) (Kd.R_far (p := ⟨gb431, 1, none⟩) (Kd.R_far (p := ⟨gb431, 0, none⟩) (Kd.R_types HO425.out BK431.out (by decide)) (fun _ hk => hk.2) (.int .i64 t427)) (fun _ hk => hk.2) (.int .i64 t428)) (fun _ hk => hk.2) (.int .i64 t429)) (fun _ h_ => h_.1))))) (below_size (by repeat (first | (with_reducible first | exact HB.out | apply bA | apply bN | apply bD | refine below_set ?_ GE431.out) | exact HB.out)))); have n3_ := Am (blk_below (g := gb431) (o := .cells #[.int .i64 t427, .int .i64 t428, .int .i64 t429] 46 (0, 0)) (by (with_reducible repeat (first | refine blk_drewN ?_ _ | refine blk_drew ?_ | refine blk_alloc ?_ _)); refine blk_put (cs := #[.int .i64 t427, .int .i64 t428, .int .i64 0]) ?_ 2 _ rfl; (with_reducible repeat (first | refine blk_drewN ?_ _ | refine blk_drew ?_ | refine blk_alloc ?_ _)); refine blk_put (cs := #[.int .i64 t427, .int .i64 0, .int .i64 0]) ?_ 1 _ rfl; (with_reducible repeat (first | refine blk_drewN ?_ _ | refine blk_drew ?_ | refine blk_alloc ?_ _)); refine blk_put (cs := #[.int .i64 0, .int .i64 0, .int .i64 0]) ?_ 0 _ rfl; (with_reducible repeat (first | refine blk_drewN ?_ _ | refine blk_drew ?_ | refine blk_alloc ?_ _)); exact BK431.out) hb); have n4_ := Am (below_step (by repeat (first | (with_reducible first | exact HB.out | apply bA | apply bN | apply bD | refine below_set ?_ GE431.out) | exact HB.out)) hb); clear HO421; clear HO425; clear BK431; clear HB; have HO421 := n0_; have HO425 := n1_; have HO435 := n2_; have BK431 := n3_; have HB := n4_; clear n0_ n1_ n2_ n3_ n4_; (try clear hb); (try clear hb2); (try clear hk); (try clear hi); (try clear ho0)) | ((with_reducible refine gate_callee (f := 25) rfl ?_); refine goesL_ (some 71) rfl rfl Try.func25 (by kernel_rfl) rfl #[.int .i64 a0, .slice A1 l1.length c1] rfl (by kernel_rfl) ?_; (with_reducible refine (evenness_Rotations.calls kj2 a0 _ _ l1 t436 t437 _ ?side1 ?side2 A19.out).mono ?_); (case side1 => repeat (first | exact (Kd.C_below HR1.out HB.out) | (with_reducible refine Kd.C_alloc ?_ _) | (with_reducible refine Kd.C_drewN ?_ _) | (with_reducible refine Kd.C_drew ?_))); (case side2 => exact HC1.out); rintro e w61 ⟨v438, rfl, ho0, hb⟩; refine ⟨_, rfl, ?_⟩; have n0_ := Am (Kd.R_below (by (with_reducible repeat (first | apply Kd.R_alloc | apply Kd.R_drewN | apply Kd.R_drew)); exact HO421.out) hb); have n1_ := Am (Kd.R_below (by (with_reducible repeat (first | apply Kd.R_alloc | apply Kd.R_drewN | apply Kd.R_drew)); exact HO425.out) hb); have n2_ := Am (Kd.R_below (by (with_reducible repeat (first | apply Kd.R_alloc | apply Kd.R_drewN | apply Kd.R_drew)); exact HO435.out) hb); have n3_ := Am (Kd.R_lower (Kd.R_new' (Kd.R_new' (Kd.R_new' ho0 (Kd.R_lt (by (with_reducible repeat (first | apply Kd.R_alloc | apply Kd.R_drewN | apply Kd.R_drew)); exact HO421.out))) (Kd.R_lt (by (with_reducible repeat (first | apply Kd.R_alloc | apply Kd.R_drewN | apply Kd.R_drew)); exact HO425.out))) (Kd.R_lt (by (with_reducible repeat (first | apply Kd.R_alloc | apply Kd.R_drewN | apply Kd.R_drew)); exact HO435.out))) (below_size (by repeat (first | (with_reducible first | exact HB.out | apply bA | apply bN | apply bD | refine below_set ?_ GE431.out) | exact HB.out)))); have n4_ := Am (blk_below (g := gb431) (o := .cells #[.int .i64 t427, .int .i64 t428, .int .i64 t429] 46 (0, 0)) (by (with_reducible repeat (first | refine blk_drewN ?_ _ | refine blk_drew ?_ | refine blk_alloc ?_ _)); exact BK431.out) hb); have n5_ := Am (below_step (by repeat (first | (with_reducible first | exact HB.out | apply bA | apply bN | apply bD | refine below_set ?_ GE431.out) | exact HB.out)) hb); clear HO421; clear HO425; clear HO435; clear BK431; clear HB; have HO421 := n0_; have HO425 := n1_; have HO435 := n2_; have HO439 := n3_; have BK431 := n4_; have HB := n5_; clear n0_ n1_ n2_ n3_ n4_ n5_; (try clear hb); (try clear hb2); (try clear hk); (try clear hi); (try clear ho0)) | ((with_reducible refine gate_callee (f := 26) rfl ?_); refine goesL_ (some 77) rfl rfl Try.func26 (by kernel_rfl) rfl #[.int .i64 a0, .slice A1 l1.length c1] rfl (by kernel_rfl) ?_; (with_reducible refine (evenness_Complement.calls kj2 a0 _ _ l1 t440 t441 _ ?side1 ?side2 A20.out).mono ?_); (case side1 => repeat (first | exact (Kd.C_below HR1.out HB.out) | (with_reducible refine Kd.C_alloc ?_ _) | (with_reducible refine Kd.C_drewN ?_ _) | (with_reducible refine Kd.C_drew ?_))); (case side2 => exact HC1.out); rintro e w62 ⟨v442, rfl, ho0, hb⟩; refine ⟨_, rfl, ?_⟩; have n0_ := Am (Kd.R_elder' (by (with_reducible repeat (first | apply Kd.R_alloc | apply Kd.R_drewN | apply Kd.R_drew)); exact HO421.out) (Kd.R_base ho0) hb); have n1_ := Am (Kd.R_elder' (by (with_reducible repeat (first | apply Kd.R_alloc | apply Kd.R_drewN | apply Kd.R_drew)); exact HO425.out) (Kd.R_base ho0) hb); have n2_ := Am (Kd.R_elder' (by (with_reducible repeat (first | apply Kd.R_alloc | apply Kd.R_drewN | apply Kd.R_drew)); exact HO435.out) (Kd.R_base ho0) hb); have n3_ := Am (Kd.R_elder' (by (with_reducible repeat (first | apply Kd.R_alloc | apply Kd.R_drewN | apply Kd.R_drew)); exact HO439.out) (Kd.R_base ho0) hb); have n4_ := Am (Kd.R_lower (Kd.R_new' (Kd.R_new' (Kd.R_new' ho0 (Kd.R_lt (by (with_reducible repeat (first | apply Kd.R_alloc | apply Kd.R_drewN | apply Kd.R_drew)); exact HO421.out))) (Kd.R_lt (by (with_reducible repeat (first | apply Kd.R_alloc | apply Kd.R_drewN | apply Kd.R_drew)); exact HO425.out))) (Kd.R_lt (by (with_reducible repeat (first | apply Kd.R_alloc | apply Kd.R_drewN | apply Kd.R_drew)); exact HO435.out))) (below_size (by repeat (first | (with_reducible first | exact HB.out | apply bA | apply bN | apply bD | refine below_set ?_ GE431.out) | exact HB.out)))); have n5_ := Am (blk_below (g := gb431) (o := .cells #[.int .i64 t427, .int .i64 t428, .int .i64 t429] 46 (0, 0)) (by (with_reducible repeat (first | refine blk_drewN ?_ _ | refine blk_drew ?_ | refine blk_alloc ?_ _)); exact BK431.out) hb); have n6_ := Am (below_step (by repeat (first | (with_reducible first | exact HB.out | apply bA | apply bN | apply bD | refine below_set ?_ GE431.out) | exact HB.out)) hb); clear HO421; clear HO425; clear HO435; clear HO439; clear BK431; clear HB; have HO421 := n0_; have HO425 := n1_; have HO435 := n2_; have HO439 := n3_; have HO443 := n4_; have BK431 := n5_; have HB := n6_; clear n0_ n1_ n2_ n3_ n4_ n5_ n6_; (try clear hb); (try clear hb2); (try clear hk); (try clear hi); (try clear ho0)) | ((with_reducible refine gate_callee (f := 24) rfl ?_); refine goesL_ (some 83) rfl rfl Try.func24 (by kernel_rfl) rfl #[.int .i64 a0, .slice A1 l1.length c1] rfl (by kernel_rfl) ?_; (with_reducible refine (evenness_Inverse.calls kj2 a0 _ _ l1 t444 t445 _ ?side1 ?side2 A21.out).mono ?_); (case side1 => repeat (first | exact (Kd.C_below HR1.out HB.out) | (with_reducible refine Kd.C_alloc ?_ _) | (with_reducible refine Kd.C_drewN ?_ _) | (with_reducible refine Kd.C_drew ?_))); (case side2 => exact HC1.out); rintro e w63 ⟨v446, rfl, ho0, hb⟩; refine ⟨_, rfl, ?_⟩; have n0_ := Am (Kd.R_elder' (by (with_reducible repeat (first | apply Kd.R_alloc | apply Kd.R_drewN | apply Kd.R_drew)); exact HO421.out) (Kd.R_base ho0) hb); have n1_ := Am (Kd.R_elder' (by (with_reducible repeat (first | apply Kd.R_alloc | apply Kd.R_drewN | apply Kd.R_drew)); exact HO425.out) (Kd.R_base ho0) hb); have n2_ := Am (Kd.R_elder' (by (with_reducible repeat (first | apply Kd.R_alloc | apply Kd.R_drewN | apply Kd.R_drew)); exact HO435.out) (Kd.R_base ho0) hb); have n3_ := Am (Kd.R_elder' (by (with_reducible repeat (first | apply Kd.R_alloc | apply Kd.R_drewN | apply Kd.R_drew)); exact HO439.out) (Kd.R_base ho0) hb); have n4_ := Am (Kd.R_elder' (by (with_reducible repeat (first | apply Kd.R_alloc | apply Kd.R_drewN | apply Kd.R_drew)); exact HO443.out) (Kd.R_base ho0) hb); have n5_ := Am (Kd.R_lower (Kd.R_new' (Kd.R_new' (Kd.R_new' (Kd.R_new' ho0 (Kd.R_lt (by (with_reducible repeat (first | apply Kd.R_alloc | apply Kd.R_drewN | apply Kd.R_drew)); exact HO421.out))) (Kd.R_lt (by (with_reducible repeat (first | apply Kd.R_alloc | apply Kd.R_drewN | apply Kd.R_drew)); exact HO425.out))) (Kd.R_lt (by (with_reducible repeat (first | apply Kd.R_alloc | apply Kd.R_drewN | apply Kd.R_drew)); exact HO435.out))) (Kd.R_lt (by (with_reducible repeat (first | apply Kd.R_alloc | apply Kd.R_drewN | apply Kd.R_drew)); exact HO443.out))) (below_size (by repeat (first | (with_reducible first | exact HB.out | apply bA | apply bN | apply bD | refine below_set ?_ GE431.out) | exact HB.out)))); have n6_ := Am (blk_below (g := gb431) (o := .cells #[.int .i64 t427, .int .i64 t428, .int .i64 t429] 46 (0, 0)) (by (with_reducible repeat (first | refine blk_drewN ?_ _ | refine blk_drew ?_ | refine blk_alloc ?_ _)); exact BK431.out) hb); have n7_ := Am (below_step (by repeat (first | (with_reducible first | exact HB.out | apply bA | apply bN | apply bD | refine below_set ?_ GE431.out) | exact HB.out)) hb); clear HO421; clear HO425; clear HO435; clear HO439; clear HO443; clear BK431; clear HB; have HO421 := n0_; have HO425 := n1_; have HO435 := n2_; have HO439 := n3_; have HO443 := n4_; have HO447 := n5_; have BK431 := n6_; have HB := n7_; clear n0_ n1_ n2_ n3_ n4_ n5_ n6_ n7_; (try clear hb); (try clear hb2); (try clear hk); (try clear hi); (try clear ho0)) | ((with_reducible refine gate_callee (f := 18) rfl ?_); refine goesL_ (some 89) rfl rfl Try.func18 (by kernel_rfl) rfl #[.int .i64 a0, .slice A1 l1.length c1] rfl (by kernel_rfl) ?_; (with_reducible refine (evenness_Generator.calls kj2 a0 _ _ l1 t448 t449 false t451 _ ?side1 ?side2 A22.out).mono ?_); (case side1 => repeat (first | exact (Kd.C_below HR1.out HB.out) | (with_reducible refine Kd.C_alloc ?_ _) | (with_reducible refine Kd.C_drewN ?_ _) | (with_reducible refine Kd.C_drew ?_))); (case side2 => exact HC1.out); rintro e w64 ⟨rfl, hb⟩; refine ⟨_, rfl, ?_⟩; have n0_ := Am (Kd.R_below (by (with_reducible repeat (first | apply Kd.R_alloc | apply Kd.R_drewN | apply Kd.R_drew)); exact HO421.out) hb); have n1_ := Am (Kd.R_below (by (with_reducible repeat (first | apply Kd.R_alloc | apply Kd.R_drewN | apply Kd.R_drew)); exact HO425.out) hb); have n2_ := Am (Kd.R_below (by (with_reducible repeat (first | apply Kd.R_alloc | apply Kd.R_drewN | apply Kd.R_drew)); exact HO435.out) hb); have n3_ := Am (Kd.R_below (by (with_reducible repeat (first | apply Kd.R_alloc | apply Kd.R_drewN | apply Kd.R_drew)); exact HO439.out) hb); have n4_ := Am (Kd.R_below (by (with_reducible repeat (first | apply Kd.R_alloc | apply Kd.R_drewN | apply Kd.R_drew)); exact HO443.out) hb); have n5_ := Am (Kd.R_below (by (with_reducible repeat (first | apply Kd.R_alloc | apply Kd.R_drewN | apply Kd.R_drew)); exact HO447.out) hb); have n6_ := Am (blk_below (g := gb431) (o := .cells #[.int .i64 t427, .int .i64 t428, .int .i64 t429] 46 (0, 0)) (by (with_reducible repeat (first | refine blk_drewN ?_ _ | refine blk_drew ?_ | refine blk_alloc ?_ _)); exact BK431.out) hb); have n7_ := Am (below_step (by repeat (first | (with_reducible first | exact HB.out | apply bA | apply bN | apply bD | refine below_set ?_ GE431.out) | exact HB.out)) hb); clear HO421; clear HO425; clear HO435; clear HO439; clear HO443; clear HO447; clear BK431; clear HB; have HO421 := n0_; have HO425 := n1_; have HO435 := n2_; have HO439 := n3_; have HO443 := n4_; have HO447 := n5_; have BK431 := n6_; have HB := n7_; clear n0_ n1_ n2_ n3_ n4_ n5_ n6_ n7_; (try clear hb); (try clear hb2); (try clear hk); (try clear hi); have hcz65_0 : w64.cell? ⟨gb431, 0, none⟩ = some (.int .i64 t427) := (blk_cell BK431.out 0).trans rfl; have hcz65_1 : w64.cell? ⟨gb431, 1, none⟩ = some (.int .i64 t428) := (blk_cell BK431.out 1).trans rfl; have hcz65_2 : w64.cell? ⟨gb431, 2, none⟩ = some (.int .i64 t429) := (blk_cell BK431.out 2).trans rfl; have hfz65_0 := blk_frozen BK431.out 0; have hfz65_1 := blk_frozen BK431.out 1; have hfz65_2 := blk_frozen BK431.out 2; obtain ⟨Ao66, co66, eo66⟩ := Kd.R_slice HO421.out; subst eo66; obtain ⟨Ao67, co67, eo67⟩ := Kd.R_slice HO425.out; subst eo67; obtain ⟨Ao68, co68, eo68⟩ := Kd.R_slice HO435.out; subst eo68; obtain ⟨Ao69, co69, eo69⟩ := Kd.R_slice HO439.out; subst eo69; obtain ⟨Ao70, co70, eo70⟩ := Kd.R_slice HO443.out; subst eo70; obtain ⟨Ao71, co71, eo71⟩ := Kd.R_slice HO447.out; subst eo71))
                                  go_ret
                                  exact ⟨by first | rfl | (simp [errW_none, errW_some] <;> rfl) | (simp [*, errW_none, errW_some] <;> rfl), by repeat (first | (with_reducible first | exact HB.out | apply bA | apply bN | apply bD | refine below_set ?_ GE431.out) | exact HB.out)⟩
                              · rw [if_neg c42] at H
                                have c42b0 : (t427 == 0 && (t428 == 0 && (t429 == 0))) = false := by simpa using c42
                                (try (have c42b1 : decide (t427 = 0 && (t428 == 0 && (t429 == 0))) = false := by simpa using c42))
                                (try (have c42b2 : (t427 == 0 && (t428 == 0 && (t429 == 0))) = false := by simpa using c42))
                                (try (have c42b3 : ¬ (t427 = 0 && (t428 == 0 && (t429 == 0))) := by simpa using c42))
                                clear c42
                                exact absurd (Option.some.inj H) (by rw [hrt]; decide)
                          · rw [if_neg c30] at H
                            have c30b0 : (t451 == t416) = false := beq_eq_false_iff_ne.mpr c30
                            have c30b1 : (t451 != t416) = true := bne_iff_ne.mpr c30
                            exact absurd (Option.some.inj H) (by rw [hrt]; decide)
                        · rw [if_neg c29] at H
                          have c29b0 : (t445 == t416) = false := beq_eq_false_iff_ne.mpr c29
                          have c29b1 : (t445 != t416) = true := bne_iff_ne.mpr c29
                          exact absurd (Option.some.inj H) (by rw [hrt]; decide)
                      · rw [if_neg c28] at H
                        have c28b0 : (t441 == t416) = false := beq_eq_false_iff_ne.mpr c28
                        have c28b1 : (t441 != t416) = true := bne_iff_ne.mpr c28
                        exact absurd (Option.some.inj H) (by rw [hrt]; decide)
                    · rw [if_neg c27] at H
                      have c27b0 : (t437 == t416) = false := beq_eq_false_iff_ne.mpr c27
                      have c27b1 : (t437 != t416) = true := bne_iff_ne.mpr c27
                      exact absurd (Option.some.inj H) (by rw [hrt]; decide)
                  · rw [if_neg c26] at H
                    have c26b0 : (t433 == t416) = false := beq_eq_false_iff_ne.mpr c26
                    have c26b1 : (t433 != t416) = true := bne_iff_ne.mpr c26
                    exact absurd (Option.some.inj H) (by rw [hrt]; decide)
                · rw [if_neg c25] at H
                  have c25b0 : (t430 == t416) = false := beq_eq_false_iff_ne.mpr c25
                  have c25b1 : (t430 != t416) = true := bne_iff_ne.mpr c25
                  exact absurd (Option.some.inj H) (by rw [hrt]; decide)
              · rw [if_neg c24] at H
                have c24b0 : (t423 == t416) = false := beq_eq_false_iff_ne.mpr c24
                have c24b1 : (t423 != t416) = true := bne_iff_ne.mpr c24
                exact absurd (Option.some.inj H) (by rw [hrt]; decide)
            · rw [if_neg c23] at H
              have c23b0 : (t419 == t416) = false := beq_eq_false_iff_ne.mpr c23
              have c23b1 : (t419 != t416) = true := bne_iff_ne.mpr c23
              exact absurd (Option.some.inj H) (by rw [hrt]; decide)
        · rw [if_neg c13] at H
          have c13b0 : (t417 == t416) = false := beq_eq_false_iff_ne.mpr c13
          have c13b1 : (t417 != t416) = true := bne_iff_ne.mpr c13
          exact absurd (Option.some.inj H) (by rw [hrt]; decide)

/-- THE ONE PURE STATEMENT of schismalaw35_EvennessChecks: yours. -/
def schismalaw35_EvennessChecks.Pure : Prop := ∀ (a0 : Int) (l1 : List Int), (Lit.int .i64 a0).wf = true → l1.length ≤ maxLen → l1.length * 8 ≤ 140737488351232 → (∀ x ∈ l1, (Lit.int .i64 x).wf = true) → ∃ k, schismalaw35_EvennessChecks.f k a0 l1 = some true
theorem schismalaw35_EvennessChecks.walk (P : schismalaw35_EvennessChecks.Pure) (a0 : Int) (a1 : Option Addr) (len1 cap1 : Nat) (z1 : List Int) (w : World) (w0 : (Lit.int .i64 a0).wf = true) (w1 : (a1 = none ∧ len1 = 0 ∧ cap1 = 0 ∧ z1 = []) ∨ ∃ x, a1 = some x ∧ len1 ≤ cap1 ∧ cap1 ≤ maxLen ∧ z1.length = cap1 ∧ (∀ i, i < z1.length → w.cell? (x.add i) = some (.int .i64 (z1.getD i 0))) ∧ ∀ n ∈ z1, (Lit.int .i64 n).wf = true) (y1 : len1 * 8 ≤ 140737488351232) :
    Calls Try.prog 11 #[.int .i64 a0, .slice a1 len1 cap1] w fun e w' => e = .returned (.bool true) ∧ Below w.heap.size w w' := by
  obtain ⟨l1, rfl, hr1, hm1, hw1, hc1⟩ := ReadsInt.ofRowC w1
  obtain ⟨k, h⟩ := P a0 l1 w0 hm1 y1 hw1
  refine (schismalaw35_EvennessChecks.calls k a0 _ _ l1 true w (Kd.C_of_reads (d := (0 : Int)) (h1 := fun _ => rfl) hr1) hc1 h rfl).mono ?_
  rintro e w' ⟨rfl, hd⟩
  exact ⟨rfl, hd⟩

end Go.Proofs.Ytdbleoijefihhaa.PEv
