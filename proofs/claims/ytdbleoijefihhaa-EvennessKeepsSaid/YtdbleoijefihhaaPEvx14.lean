-- Written for this claim by a program of this session (myprint.py).
import Derived.Test.YtdbleoijefihhaaPEvx0
import Derived.Test.YtdbleoijefihhaaPEvx2
import Derived.Test.YtdbleoijefihhaaPEvx4
import Derived.Test.YtdbleoijefihhaaPEvx6
import Derived.Test.YtdbleoijefihhaaPEvx7
import Derived.Test.YtdbleoijefihhaaHb
import Derived.Test.YtdbleoijefihhaaHc
namespace Go.Proofs.Ytdbleoijefihhaa.PEv
open Go.RowKit Go.Proofs.YtdbleoijefihhaaW.PrintWords Go.Proofs.YtdbleoijefihhaaW.PrintLast Go.Proofs.YtdbleoijefihhaaW.PrintMore
attribute [local go_sem] max2_int min2_int max_two min_two max_three min_three max_four min_four   -- for this text's walks alone
set_option linter.unusedVariables false
set_option linter.unusedSimpArgs false

/-! ### schismalaw35_EvennessKeeps: function 7 -/
mutual
def schismalaw35_EvennessKeeps.j0 : Nat → Int → Int → List Int → List Int → List Int → Bool → Option (Bool)
  | 0, _, _, _, _, _, _ => none
  | k + 1, x7, x8, x9, x11, x13, x89 => if x89 = true then (some false) else ((some (([x9, x11, x13] : List (List Int)) : List (List Int))).bind fun y272 => ((evenness_Complement.f k x7 x9).bind fun bt275 => (if bt275.2 = 0 then (if y272.length < 5864062014805 then (schismalaw35_EvennessKeeps.j1 k x7 (y272 ++ [bt275.1])) else (none)) else (if bt275.2 = 13 then (if x8 = x7 then (schismalaw35_EvennessKeeps.j1 k x7 y272) else (some false)) else (some false)))))
def schismalaw35_EvennessKeeps.j1 : Nat → Int → List (List Int) → Option (Bool)
  | 0, _, _ => none
  | k + 1, x7, x17 => schismalaw35_EvennessKeeps.l0 k x7 x17 (x17.length : Int) 0
def schismalaw35_EvennessKeeps.l0 : Nat → Int → List (List Int) → Int → Int → Option (Bool)
  | 0, _, _, _, _ => none
  | k + 1, x7, x113, x114, x115 => if x115 < x114 then (if 0 ≤ x115 then (if x115 < (x113.length : Int) then ((evenness_IsEven.f k x7 (rd_L1 x113 x115)).bind fun bt283 => (if bt283.2.2.2.2 = 0 then (if bt283.1 = true then (schismalaw35_EvennessKeeps.l0 k x7 x113 x114 (wrap64 (x115 + 1))) else (some false)) else (some false))) else (none)) else (none)) else (some true)
end
def schismalaw35_EvennessKeeps.f (k : Nat) (a0 : Int) (a1 : Int) (a2 : Int) : Option (Bool) := (schismalaw35_known.f k).bind fun t255 => (if t255 = true then (if (wrap64 (1 + (wrap64 (Int.tmod a0 30)))) = 0 then (none) else (if (wrap64 (1 + (Int.tmod (wrap64 (a1)) (wrap64 (1 + (wrap64 (Int.tmod a0 30))))))) = 0 then (none) else ((evenness_Make.f k (wrap64 (1 + (wrap64 (Int.tmod a0 30)))) (wrap64 (1 + (Int.tmod (wrap64 (a1)) (wrap64 (1 + (wrap64 (Int.tmod a0 30))))))) (Int.tmod (wrap64 (a2)) (wrap64 (1 + (Int.tmod (wrap64 (a1)) (wrap64 (1 + (wrap64 (Int.tmod a0 30))))))))).bind fun bt256 => (if bt256.2 = 0 then ((evenness_Transpose.f k (wrap64 (1 + (wrap64 (Int.tmod a0 30)))) bt256.1 (wrap64 (a2))).bind fun bt260 => ((evenness_Inverse.f k (wrap64 (1 + (wrap64 (Int.tmod a0 30)))) bt256.1).bind fun bt264 => ((evenness_Rotations.f k (wrap64 (1 + (wrap64 (Int.tmod a0 30)))) bt256.1).bind fun bt268 => (if bt260.2 = 0 then (if bt264.2 = 0 then (if bt268.2 = 0 then (if (bt268.1.length : Int) = 0 then (schismalaw35_EvennessKeeps.j0 k (wrap64 (1 + (wrap64 (Int.tmod a0 30)))) (wrap64 (1 + (Int.tmod (wrap64 (a1)) (wrap64 (1 + (wrap64 (Int.tmod a0 30))))))) bt256.1 bt260.1 bt264.1 true) else (schismalaw35_EvennessKeeps.j0 k (wrap64 (1 + (wrap64 (Int.tmod a0 30)))) (wrap64 (1 + (Int.tmod (wrap64 (a1)) (wrap64 (1 + (wrap64 (Int.tmod a0 30))))))) bt256.1 bt260.1 bt264.1 ((Int.tmod (wrap64 (1 + (wrap64 (Int.tmod a0 30)))) (bt268.1.length : Int)) != 0))) else (schismalaw35_EvennessKeeps.j0 k (wrap64 (1 + (wrap64 (Int.tmod a0 30)))) (wrap64 (1 + (Int.tmod (wrap64 (a1)) (wrap64 (1 + (wrap64 (Int.tmod a0 30))))))) bt256.1 bt260.1 bt264.1 true)) else (schismalaw35_EvennessKeeps.j0 k (wrap64 (1 + (wrap64 (Int.tmod a0 30)))) (wrap64 (1 + (Int.tmod (wrap64 (a1)) (wrap64 (1 + (wrap64 (Int.tmod a0 30))))))) bt256.1 bt260.1 bt264.1 true)) else (schismalaw35_EvennessKeeps.j0 k (wrap64 (1 + (wrap64 (Int.tmod a0 30)))) (wrap64 (1 + (Int.tmod (wrap64 (a1)) (wrap64 (1 + (wrap64 (Int.tmod a0 30))))))) bt256.1 bt260.1 bt264.1 true))))) else (some false))))) else (some false))
theorem schismalaw35_EvennessKeeps.mono_l : ∀ k, (∀ y0 y1 y2 y3 y4 y5, LeO (schismalaw35_EvennessKeeps.j0 k y0 y1 y2 y3 y4 y5) (schismalaw35_EvennessKeeps.j0 (k + 1) y0 y1 y2 y3 y4 y5)) ∧ (∀ y0 y1, LeO (schismalaw35_EvennessKeeps.j1 k y0 y1) (schismalaw35_EvennessKeeps.j1 (k + 1) y0 y1)) ∧ (∀ y0 y1 y2 y3, LeO (schismalaw35_EvennessKeeps.l0 k y0 y1 y2 y3) (schismalaw35_EvennessKeeps.l0 (k + 1) y0 y1 y2 y3))
  | 0 => ⟨fun _ _ _ _ _ _ r h => by simp [schismalaw35_EvennessKeeps.j0] at h, fun _ _ r h => by simp [schismalaw35_EvennessKeeps.j1] at h, fun _ _ _ _ r h => by simp [schismalaw35_EvennessKeeps.l0] at h⟩
  | k + 1 => by
    obtain ⟨ih0, ih1, ih2⟩ := schismalaw35_EvennessKeeps.mono_l k
    refine ⟨?_, ?_, ?_⟩
    · intro y0 y1 y2 y3 y4 y5
      unfold schismalaw35_EvennessKeeps.j0
      repeat' first
      | (with_reducible exact ih0 _ _ _ _ _ _)
      | (with_reducible exact ih1 _ _)
      | (with_reducible exact ih2 _ _ _ _)
      | (with_reducible exact evenness_Complement.mono _ _ _)
      | (with_reducible exact evenness_Inverse.mono _ _ _)
      | (with_reducible exact evenness_IsEven.mono _ _ _)
      | (with_reducible exact evenness_Make.mono _ _ _ _)
      | (with_reducible exact evenness_Rotations.mono _ _ _)
      | (with_reducible exact evenness_Transpose.mono _ _ _ _)
      | (with_reducible exact schismalaw35_known.mono _)
      | (with_reducible exact LeO.refl _)
      | (with_reducible exact LeO.none _)
      | (with_reducible refine LeO.ite ?_ ?_)
      | (with_reducible refine LeO.bind ?_ (fun _ => ?_))
      | exact ih0 _ _ _ _ _ _
      | exact ih1 _ _
      | exact ih2 _ _ _ _
      | exact evenness_Complement.mono _ _ _
      | exact evenness_Inverse.mono _ _ _
      | exact evenness_IsEven.mono _ _ _
      | exact evenness_Make.mono _ _ _ _
      | exact evenness_Rotations.mono _ _ _
      | exact evenness_Transpose.mono _ _ _ _
      | exact schismalaw35_known.mono _
      | exact LeO.none _
      | refine LeO.ite ?_ ?_
      | refine LeO.bind ?_ (fun _ => ?_)
    · intro y0 y1
      unfold schismalaw35_EvennessKeeps.j1
      repeat' first
      | (with_reducible exact ih0 _ _ _ _ _ _)
      | (with_reducible exact ih1 _ _)
      | (with_reducible exact ih2 _ _ _ _)
      | (with_reducible exact evenness_Complement.mono _ _ _)
      | (with_reducible exact evenness_Inverse.mono _ _ _)
      | (with_reducible exact evenness_IsEven.mono _ _ _)
      | (with_reducible exact evenness_Make.mono _ _ _ _)
      | (with_reducible exact evenness_Rotations.mono _ _ _)
      | (with_reducible exact evenness_Transpose.mono _ _ _ _)
      | (with_reducible exact schismalaw35_known.mono _)
      | (with_reducible exact LeO.refl _)
      | (with_reducible exact LeO.none _)
      | (with_reducible refine LeO.ite ?_ ?_)
      | (with_reducible refine LeO.bind ?_ (fun _ => ?_))
      | exact ih0 _ _ _ _ _ _
      | exact ih1 _ _
      | exact ih2 _ _ _ _
      | exact evenness_Complement.mono _ _ _
      | exact evenness_Inverse.mono _ _ _
      | exact evenness_IsEven.mono _ _ _
      | exact evenness_Make.mono _ _ _ _
      | exact evenness_Rotations.mono _ _ _
      | exact evenness_Transpose.mono _ _ _ _
      | exact schismalaw35_known.mono _
      | exact LeO.none _
      | refine LeO.ite ?_ ?_
      | refine LeO.bind ?_ (fun _ => ?_)
    · intro y0 y1 y2 y3
      unfold schismalaw35_EvennessKeeps.l0
      repeat' first
      | (with_reducible exact ih0 _ _ _ _ _ _)
      | (with_reducible exact ih1 _ _)
      | (with_reducible exact ih2 _ _ _ _)
      | (with_reducible exact evenness_Complement.mono _ _ _)
      | (with_reducible exact evenness_Inverse.mono _ _ _)
      | (with_reducible exact evenness_IsEven.mono _ _ _)
      | (with_reducible exact evenness_Make.mono _ _ _ _)
      | (with_reducible exact evenness_Rotations.mono _ _ _)
      | (with_reducible exact evenness_Transpose.mono _ _ _ _)
      | (with_reducible exact schismalaw35_known.mono _)
      | (with_reducible exact LeO.refl _)
      | (with_reducible exact LeO.none _)
      | (with_reducible refine LeO.ite ?_ ?_)
      | (with_reducible refine LeO.bind ?_ (fun _ => ?_))
      | exact ih0 _ _ _ _ _ _
      | exact ih1 _ _
      | exact ih2 _ _ _ _
      | exact evenness_Complement.mono _ _ _
      | exact evenness_Inverse.mono _ _ _
      | exact evenness_IsEven.mono _ _ _
      | exact evenness_Make.mono _ _ _ _
      | exact evenness_Rotations.mono _ _ _
      | exact evenness_Transpose.mono _ _ _ _
      | exact schismalaw35_known.mono _
      | exact LeO.none _
      | refine LeO.ite ?_ ?_
      | refine LeO.bind ?_ (fun _ => ?_)
theorem schismalaw35_EvennessKeeps.mono : ∀ a0 a1 a2 k, LeO (schismalaw35_EvennessKeeps.f k a0 a1 a2) (schismalaw35_EvennessKeeps.f (k + 1) a0 a1 a2) := by
  intro a0 a1 a2 k
  obtain ⟨ih0, ih1, ih2⟩ := schismalaw35_EvennessKeeps.mono_l k
  unfold schismalaw35_EvennessKeeps.f
  repeat' first
      | (with_reducible exact ih0 _ _ _ _ _ _)
      | (with_reducible exact ih1 _ _)
      | (with_reducible exact ih2 _ _ _ _)
      | (with_reducible exact evenness_Complement.mono _ _ _)
      | (with_reducible exact evenness_Inverse.mono _ _ _)
      | (with_reducible exact evenness_IsEven.mono _ _ _)
      | (with_reducible exact evenness_Make.mono _ _ _ _)
      | (with_reducible exact evenness_Rotations.mono _ _ _)
      | (with_reducible exact evenness_Transpose.mono _ _ _ _)
      | (with_reducible exact schismalaw35_known.mono _)
      | (with_reducible exact LeO.refl _)
      | (with_reducible exact LeO.none _)
      | (with_reducible refine LeO.ite ?_ ?_)
      | (with_reducible refine LeO.bind ?_ (fun _ => ?_))
      | exact ih0 _ _ _ _ _ _
      | exact ih1 _ _
      | exact ih2 _ _ _ _
      | exact evenness_Complement.mono _ _ _
      | exact evenness_Inverse.mono _ _ _
      | exact evenness_IsEven.mono _ _ _
      | exact evenness_Make.mono _ _ _ _
      | exact evenness_Rotations.mono _ _ _
      | exact evenness_Transpose.mono _ _ _ _
      | exact schismalaw35_known.mono _
      | exact LeO.none _
      | refine LeO.ite ?_ ?_
      | refine LeO.bind ?_ (fun _ => ?_)
set_option maxHeartbeats 8000000 in
set_option maxRecDepth 100000 in
theorem schismalaw35_EvennessKeeps.calls (k : Nat) (a0 : Int) (a1 : Int) (a2 : Int) (r : Bool) (w : World) (h : schismalaw35_EvennessKeeps.f k a0 a1 a2 = some r) :
    Calls Try.prog 7 #[.int .u8 a0, .int .u8 a1, .int .u8 a2] w fun e w' => e = .returned (.bool r) ∧ Below w.heap.size w w' := by
  have hu46 := Try.underlying46
  have HB := Aside0.mk (Below.refl w.heap.size w)
  have H : ((schismalaw35_known.f k).bind fun t255 => (if t255 = true then (if (wrap64 (1 + (wrap64 (Int.tmod a0 30)))) = 0 then (none) else (if (wrap64 (1 + (Int.tmod (wrap64 (a1)) (wrap64 (1 + (wrap64 (Int.tmod a0 30))))))) = 0 then (none) else ((evenness_Make.f k (wrap64 (1 + (wrap64 (Int.tmod a0 30)))) (wrap64 (1 + (Int.tmod (wrap64 (a1)) (wrap64 (1 + (wrap64 (Int.tmod a0 30))))))) (Int.tmod (wrap64 (a2)) (wrap64 (1 + (Int.tmod (wrap64 (a1)) (wrap64 (1 + (wrap64 (Int.tmod a0 30))))))))).bind fun bt256 => (if bt256.2 = 0 then ((evenness_Transpose.f k (wrap64 (1 + (wrap64 (Int.tmod a0 30)))) bt256.1 (wrap64 (a2))).bind fun bt260 => ((evenness_Inverse.f k (wrap64 (1 + (wrap64 (Int.tmod a0 30)))) bt256.1).bind fun bt264 => ((evenness_Rotations.f k (wrap64 (1 + (wrap64 (Int.tmod a0 30)))) bt256.1).bind fun bt268 => (if bt260.2 = 0 then (if bt264.2 = 0 then (if bt268.2 = 0 then (if (bt268.1.length : Int) = 0 then (schismalaw35_EvennessKeeps.j0 k (wrap64 (1 + (wrap64 (Int.tmod a0 30)))) (wrap64 (1 + (Int.tmod (wrap64 (a1)) (wrap64 (1 + (wrap64 (Int.tmod a0 30))))))) bt256.1 bt260.1 bt264.1 true) else (schismalaw35_EvennessKeeps.j0 k (wrap64 (1 + (wrap64 (Int.tmod a0 30)))) (wrap64 (1 + (Int.tmod (wrap64 (a1)) (wrap64 (1 + (wrap64 (Int.tmod a0 30))))))) bt256.1 bt260.1 bt264.1 ((Int.tmod (wrap64 (1 + (wrap64 (Int.tmod a0 30)))) (bt268.1.length : Int)) != 0))) else (schismalaw35_EvennessKeeps.j0 k (wrap64 (1 + (wrap64 (Int.tmod a0 30)))) (wrap64 (1 + (Int.tmod (wrap64 (a1)) (wrap64 (1 + (wrap64 (Int.tmod a0 30))))))) bt256.1 bt260.1 bt264.1 true)) else (schismalaw35_EvennessKeeps.j0 k (wrap64 (1 + (wrap64 (Int.tmod a0 30)))) (wrap64 (1 + (Int.tmod (wrap64 (a1)) (wrap64 (1 + (wrap64 (Int.tmod a0 30))))))) bt256.1 bt260.1 bt264.1 true)) else (schismalaw35_EvennessKeeps.j0 k (wrap64 (1 + (wrap64 (Int.tmod a0 30)))) (wrap64 (1 + (Int.tmod (wrap64 (a1)) (wrap64 (1 + (wrap64 (Int.tmod a0 30))))))) bt256.1 bt260.1 bt264.1 true))))) else (some false))))) else (some false))) = some r := h
  clear h
  replace H := Option.bind_eq_some_iff.mp H
  obtain ⟨t255, A40, H⟩ := H
  replace H : (if t255 = true then (if (wrap64 (1 + (wrap64 (Int.tmod a0 30)))) = 0 then (none) else (if (wrap64 (1 + (Int.tmod (wrap64 (a1)) (wrap64 (1 + (wrap64 (Int.tmod a0 30))))))) = 0 then (none) else ((evenness_Make.f k (wrap64 (1 + (wrap64 (Int.tmod a0 30)))) (wrap64 (1 + (Int.tmod (wrap64 (a1)) (wrap64 (1 + (wrap64 (Int.tmod a0 30))))))) (Int.tmod (wrap64 (a2)) (wrap64 (1 + (Int.tmod (wrap64 (a1)) (wrap64 (1 + (wrap64 (Int.tmod a0 30))))))))).bind fun bt256 => (if bt256.2 = 0 then ((evenness_Transpose.f k (wrap64 (1 + (wrap64 (Int.tmod a0 30)))) bt256.1 (wrap64 (a2))).bind fun bt260 => ((evenness_Inverse.f k (wrap64 (1 + (wrap64 (Int.tmod a0 30)))) bt256.1).bind fun bt264 => ((evenness_Rotations.f k (wrap64 (1 + (wrap64 (Int.tmod a0 30)))) bt256.1).bind fun bt268 => (if bt260.2 = 0 then (if bt264.2 = 0 then (if bt268.2 = 0 then (if (bt268.1.length : Int) = 0 then (schismalaw35_EvennessKeeps.j0 k (wrap64 (1 + (wrap64 (Int.tmod a0 30)))) (wrap64 (1 + (Int.tmod (wrap64 (a1)) (wrap64 (1 + (wrap64 (Int.tmod a0 30))))))) bt256.1 bt260.1 bt264.1 true) else (schismalaw35_EvennessKeeps.j0 k (wrap64 (1 + (wrap64 (Int.tmod a0 30)))) (wrap64 (1 + (Int.tmod (wrap64 (a1)) (wrap64 (1 + (wrap64 (Int.tmod a0 30))))))) bt256.1 bt260.1 bt264.1 ((Int.tmod (wrap64 (1 + (wrap64 (Int.tmod a0 30)))) (bt268.1.length : Int)) != 0))) else (schismalaw35_EvennessKeeps.j0 k (wrap64 (1 + (wrap64 (Int.tmod a0 30)))) (wrap64 (1 + (Int.tmod (wrap64 (a1)) (wrap64 (1 + (wrap64 (Int.tmod a0 30))))))) bt256.1 bt260.1 bt264.1 true)) else (schismalaw35_EvennessKeeps.j0 k (wrap64 (1 + (wrap64 (Int.tmod a0 30)))) (wrap64 (1 + (Int.tmod (wrap64 (a1)) (wrap64 (1 + (wrap64 (Int.tmod a0 30))))))) bt256.1 bt260.1 bt264.1 true)) else (schismalaw35_EvennessKeeps.j0 k (wrap64 (1 + (wrap64 (Int.tmod a0 30)))) (wrap64 (1 + (Int.tmod (wrap64 (a1)) (wrap64 (1 + (wrap64 (Int.tmod a0 30))))))) bt256.1 bt260.1 bt264.1 true))))) else (some false))))) else (some false)) = some r := H
  have A4 := Aside0.mk A40
  clear A40
  by_cases c5 : t255 = true
  · subst c5
    have H1 : (if (wrap64 (1 + (wrap64 (Int.tmod a0 30)))) = 0 then (none) else (if (wrap64 (1 + (Int.tmod (wrap64 (a1)) (wrap64 (1 + (wrap64 (Int.tmod a0 30))))))) = 0 then (none) else ((evenness_Make.f k (wrap64 (1 + (wrap64 (Int.tmod a0 30)))) (wrap64 (1 + (Int.tmod (wrap64 (a1)) (wrap64 (1 + (wrap64 (Int.tmod a0 30))))))) (Int.tmod (wrap64 (a2)) (wrap64 (1 + (Int.tmod (wrap64 (a1)) (wrap64 (1 + (wrap64 (Int.tmod a0 30))))))))).bind fun bt256 => (if bt256.2 = 0 then ((evenness_Transpose.f k (wrap64 (1 + (wrap64 (Int.tmod a0 30)))) bt256.1 (wrap64 (a2))).bind fun bt260 => ((evenness_Inverse.f k (wrap64 (1 + (wrap64 (Int.tmod a0 30)))) bt256.1).bind fun bt264 => ((evenness_Rotations.f k (wrap64 (1 + (wrap64 (Int.tmod a0 30)))) bt256.1).bind fun bt268 => (if bt260.2 = 0 then (if bt264.2 = 0 then (if bt268.2 = 0 then (if (bt268.1.length : Int) = 0 then (schismalaw35_EvennessKeeps.j0 k (wrap64 (1 + (wrap64 (Int.tmod a0 30)))) (wrap64 (1 + (Int.tmod (wrap64 (a1)) (wrap64 (1 + (wrap64 (Int.tmod a0 30))))))) bt256.1 bt260.1 bt264.1 true) else (schismalaw35_EvennessKeeps.j0 k (wrap64 (1 + (wrap64 (Int.tmod a0 30)))) (wrap64 (1 + (Int.tmod (wrap64 (a1)) (wrap64 (1 + (wrap64 (Int.tmod a0 30))))))) bt256.1 bt260.1 bt264.1 ((Int.tmod (wrap64 (1 + (wrap64 (Int.tmod a0 30)))) (bt268.1.length : Int)) != 0))) else (schismalaw35_EvennessKeeps.j0 k (wrap64 (1 + (wrap64 (Int.tmod a0 30)))) (wrap64 (1 + (Int.tmod (wrap64 (a1)) (wrap64 (1 + (wrap64 (Int.tmod a0 30))))))) bt256.1 bt260.1 bt264.1 true)) else (schismalaw35_EvennessKeeps.j0 k (wrap64 (1 + (wrap64 (Int.tmod a0 30)))) (wrap64 (1 + (Int.tmod (wrap64 (a1)) (wrap64 (1 + (wrap64 (Int.tmod a0 30))))))) bt256.1 bt260.1 bt264.1 true)) else (schismalaw35_EvennessKeeps.j0 k (wrap64 (1 + (wrap64 (Int.tmod a0 30)))) (wrap64 (1 + (Int.tmod (wrap64 (a1)) (wrap64 (1 + (wrap64 (Int.tmod a0 30))))))) bt256.1 bt260.1 bt264.1 true))))) else (some false))))) = some r := by rw [if_pos rfl] at H; exact H
    clear H
    have H := H1
    clear H1
    by_cases c6 : (wrap64 (1 + (wrap64 (Int.tmod a0 30)))) = 0
    · rw [if_pos c6] at H
      exact absurd H (by simp)
    · rw [if_neg c6] at H
      have c6b0 : ((wrap64 (1 + (wrap64 (Int.tmod a0 30)))) == 0) = false := beq_eq_false_iff_ne.mpr c6
      have c6b1 : ((wrap64 (1 + (wrap64 (Int.tmod a0 30)))) != 0) = true := bne_iff_ne.mpr c6
      by_cases c7 : (wrap64 (1 + (Int.tmod (wrap64 (a1)) (wrap64 (1 + (wrap64 (Int.tmod a0 30))))))) = 0
      · rw [if_pos c7] at H
        exact absurd H (by simp)
      · rw [if_neg c7] at H
        have c7b0 : ((wrap64 (1 + (Int.tmod (wrap64 (a1)) (wrap64 (1 + (wrap64 (Int.tmod a0 30))))))) == 0) = false := beq_eq_false_iff_ne.mpr c7
        have c7b1 : ((wrap64 (1 + (Int.tmod (wrap64 (a1)) (wrap64 (1 + (wrap64 (Int.tmod a0 30))))))) != 0) = true := bne_iff_ne.mpr c7
        replace H := Option.bind_eq_some_iff.mp H
        obtain ⟨⟨t256, t257⟩, A80, H⟩ := H
        replace H : (if t257 = 0 then ((evenness_Transpose.f k (wrap64 (1 + (wrap64 (Int.tmod a0 30)))) t256 (wrap64 (a2))).bind fun bt260 => ((evenness_Inverse.f k (wrap64 (1 + (wrap64 (Int.tmod a0 30)))) t256).bind fun bt264 => ((evenness_Rotations.f k (wrap64 (1 + (wrap64 (Int.tmod a0 30)))) t256).bind fun bt268 => (if bt260.2 = 0 then (if bt264.2 = 0 then (if bt268.2 = 0 then (if (bt268.1.length : Int) = 0 then (schismalaw35_EvennessKeeps.j0 k (wrap64 (1 + (wrap64 (Int.tmod a0 30)))) (wrap64 (1 + (Int.tmod (wrap64 (a1)) (wrap64 (1 + (wrap64 (Int.tmod a0 30))))))) t256 bt260.1 bt264.1 true) else (schismalaw35_EvennessKeeps.j0 k (wrap64 (1 + (wrap64 (Int.tmod a0 30)))) (wrap64 (1 + (Int.tmod (wrap64 (a1)) (wrap64 (1 + (wrap64 (Int.tmod a0 30))))))) t256 bt260.1 bt264.1 ((Int.tmod (wrap64 (1 + (wrap64 (Int.tmod a0 30)))) (bt268.1.length : Int)) != 0))) else (schismalaw35_EvennessKeeps.j0 k (wrap64 (1 + (wrap64 (Int.tmod a0 30)))) (wrap64 (1 + (Int.tmod (wrap64 (a1)) (wrap64 (1 + (wrap64 (Int.tmod a0 30))))))) t256 bt260.1 bt264.1 true)) else (schismalaw35_EvennessKeeps.j0 k (wrap64 (1 + (wrap64 (Int.tmod a0 30)))) (wrap64 (1 + (Int.tmod (wrap64 (a1)) (wrap64 (1 + (wrap64 (Int.tmod a0 30))))))) t256 bt260.1 bt264.1 true)) else (schismalaw35_EvennessKeeps.j0 k (wrap64 (1 + (wrap64 (Int.tmod a0 30)))) (wrap64 (1 + (Int.tmod (wrap64 (a1)) (wrap64 (1 + (wrap64 (Int.tmod a0 30))))))) t256 bt260.1 bt264.1 true))))) else (some false)) = some r := H
        have A8 := Aside0.mk A80
        clear A80
        by_cases c9 : t257 = 0
        · rw [if_pos c9] at H
          have c9b0 : (t257 == 0) = true := beq_iff_eq.mpr c9
          have c9b1 : (t257 != 0) = false := bne_eq_false_iff_eq.mpr c9
          clear c9
          replace H := Option.bind_eq_some_iff.mp H
          obtain ⟨⟨t260, t261⟩, A100, H⟩ := H
          replace H : ((evenness_Inverse.f k (wrap64 (1 + (wrap64 (Int.tmod a0 30)))) t256).bind fun bt264 => ((evenness_Rotations.f k (wrap64 (1 + (wrap64 (Int.tmod a0 30)))) t256).bind fun bt268 => (if t261 = 0 then (if bt264.2 = 0 then (if bt268.2 = 0 then (if (bt268.1.length : Int) = 0 then (schismalaw35_EvennessKeeps.j0 k (wrap64 (1 + (wrap64 (Int.tmod a0 30)))) (wrap64 (1 + (Int.tmod (wrap64 (a1)) (wrap64 (1 + (wrap64 (Int.tmod a0 30))))))) t256 t260 bt264.1 true) else (schismalaw35_EvennessKeeps.j0 k (wrap64 (1 + (wrap64 (Int.tmod a0 30)))) (wrap64 (1 + (Int.tmod (wrap64 (a1)) (wrap64 (1 + (wrap64 (Int.tmod a0 30))))))) t256 t260 bt264.1 ((Int.tmod (wrap64 (1 + (wrap64 (Int.tmod a0 30)))) (bt268.1.length : Int)) != 0))) else (schismalaw35_EvennessKeeps.j0 k (wrap64 (1 + (wrap64 (Int.tmod a0 30)))) (wrap64 (1 + (Int.tmod (wrap64 (a1)) (wrap64 (1 + (wrap64 (Int.tmod a0 30))))))) t256 t260 bt264.1 true)) else (schismalaw35_EvennessKeeps.j0 k (wrap64 (1 + (wrap64 (Int.tmod a0 30)))) (wrap64 (1 + (Int.tmod (wrap64 (a1)) (wrap64 (1 + (wrap64 (Int.tmod a0 30))))))) t256 t260 bt264.1 true)) else (schismalaw35_EvennessKeeps.j0 k (wrap64 (1 + (wrap64 (Int.tmod a0 30)))) (wrap64 (1 + (Int.tmod (wrap64 (a1)) (wrap64 (1 + (wrap64 (Int.tmod a0 30))))))) t256 t260 bt264.1 true)))) = some r := H
          have A10 := Aside0.mk A100
          clear A100
          replace H := Option.bind_eq_some_iff.mp H
          obtain ⟨⟨t264, t265⟩, A110, H⟩ := H
          replace H : ((evenness_Rotations.f k (wrap64 (1 + (wrap64 (Int.tmod a0 30)))) t256).bind fun bt268 => (if t261 = 0 then (if t265 = 0 then (if bt268.2 = 0 then (if (bt268.1.length : Int) = 0 then (schismalaw35_EvennessKeeps.j0 k (wrap64 (1 + (wrap64 (Int.tmod a0 30)))) (wrap64 (1 + (Int.tmod (wrap64 (a1)) (wrap64 (1 + (wrap64 (Int.tmod a0 30))))))) t256 t260 t264 true) else (schismalaw35_EvennessKeeps.j0 k (wrap64 (1 + (wrap64 (Int.tmod a0 30)))) (wrap64 (1 + (Int.tmod (wrap64 (a1)) (wrap64 (1 + (wrap64 (Int.tmod a0 30))))))) t256 t260 t264 ((Int.tmod (wrap64 (1 + (wrap64 (Int.tmod a0 30)))) (bt268.1.length : Int)) != 0))) else (schismalaw35_EvennessKeeps.j0 k (wrap64 (1 + (wrap64 (Int.tmod a0 30)))) (wrap64 (1 + (Int.tmod (wrap64 (a1)) (wrap64 (1 + (wrap64 (Int.tmod a0 30))))))) t256 t260 t264 true)) else (schismalaw35_EvennessKeeps.j0 k (wrap64 (1 + (wrap64 (Int.tmod a0 30)))) (wrap64 (1 + (Int.tmod (wrap64 (a1)) (wrap64 (1 + (wrap64 (Int.tmod a0 30))))))) t256 t260 t264 true)) else (schismalaw35_EvennessKeeps.j0 k (wrap64 (1 + (wrap64 (Int.tmod a0 30)))) (wrap64 (1 + (Int.tmod (wrap64 (a1)) (wrap64 (1 + (wrap64 (Int.tmod a0 30))))))) t256 t260 t264 true))) = some r := H
          have A11 := Aside0.mk A110
          clear A110
          replace H := Option.bind_eq_some_iff.mp H
          obtain ⟨⟨t268, t269⟩, A120, H⟩ := H
          replace H : (if t261 = 0 then (if t265 = 0 then (if t269 = 0 then (if (t268.length : Int) = 0 then (schismalaw35_EvennessKeeps.j0 k (wrap64 (1 + (wrap64 (Int.tmod a0 30)))) (wrap64 (1 + (Int.tmod (wrap64 (a1)) (wrap64 (1 + (wrap64 (Int.tmod a0 30))))))) t256 t260 t264 true) else (schismalaw35_EvennessKeeps.j0 k (wrap64 (1 + (wrap64 (Int.tmod a0 30)))) (wrap64 (1 + (Int.tmod (wrap64 (a1)) (wrap64 (1 + (wrap64 (Int.tmod a0 30))))))) t256 t260 t264 ((Int.tmod (wrap64 (1 + (wrap64 (Int.tmod a0 30)))) (t268.length : Int)) != 0))) else (schismalaw35_EvennessKeeps.j0 k (wrap64 (1 + (wrap64 (Int.tmod a0 30)))) (wrap64 (1 + (Int.tmod (wrap64 (a1)) (wrap64 (1 + (wrap64 (Int.tmod a0 30))))))) t256 t260 t264 true)) else (schismalaw35_EvennessKeeps.j0 k (wrap64 (1 + (wrap64 (Int.tmod a0 30)))) (wrap64 (1 + (Int.tmod (wrap64 (a1)) (wrap64 (1 + (wrap64 (Int.tmod a0 30))))))) t256 t260 t264 true)) else (schismalaw35_EvennessKeeps.j0 k (wrap64 (1 + (wrap64 (Int.tmod a0 30)))) (wrap64 (1 + (Int.tmod (wrap64 (a1)) (wrap64 (1 + (wrap64 (Int.tmod a0 30))))))) t256 t260 t264 true)) = some r := H
          have A12 := Aside0.mk A120
          clear A120
          have HC13 := Aside0.mk H
          clear H
          go_enter Try.func7, Try.ntmps7
          go_upto_region 11 with (first | ((with_reducible refine gate_callee (f := 12) rfl ?_); refine goesL_ (some 25) rfl rfl Try.func12 (by kernel_rfl) rfl #[] rfl (by (try simp only [List.map_toArray, List.map_cons, List.map_nil]); first | done | rfl | (simp only [List.length_drop, List.length_take]; rfl)) ?_; (with_reducible refine (schismalaw35_known.calls k  true _ A4.out).mono ?_); rintro e w14 ⟨rfl, hb⟩; refine ⟨_, rfl, ?_⟩; have n0_ := Aside0.mk (below_step (by repeat (first | (with_reducible first | exact HB.out | apply below_alloc | apply pw_below_drewN | apply below_drew1) | exact HB.out)) hb); clear HB; have HB := n0_; clear n0_; (try clear hb); (try clear hb2); (try clear hk); (try clear hi)) | ((with_reducible refine gate_callee (f := 13) rfl ?_); refine goesL_ (some 43) rfl rfl Try.func13 (by kernel_rfl) rfl #[.int .i64 (wrap64 (1 + (wrap64 (Int.tmod a0 30)))), .int .i64 (wrap64 (1 + (Int.tmod (wrap64 (a1)) (wrap64 (1 + (wrap64 (Int.tmod a0 30))))))), .int .i64 (Int.tmod (wrap64 (a2)) (wrap64 (1 + (Int.tmod (wrap64 (a1)) (wrap64 (1 + (wrap64 (Int.tmod a0 30))))))))] rfl (by (try simp only [List.map_toArray, List.map_cons, List.map_nil]); first | done | rfl | (simp only [List.length_drop, List.length_take]; rfl)) ?_; (with_reducible refine (evenness_Make.calls k (wrap64 (1 + (wrap64 (Int.tmod a0 30)))) (wrap64 (1 + (Int.tmod (wrap64 (a1)) (wrap64 (1 + (wrap64 (Int.tmod a0 30))))))) (Int.tmod (wrap64 (a2)) (wrap64 (1 + (Int.tmod (wrap64 (a1)) (wrap64 (1 + (wrap64 (Int.tmod a0 30)))))))) t256 t257 _ A8.out).mono ?_); rintro e w15 ⟨v258, rfl, ho0, hb⟩; refine ⟨_, rfl, ?_⟩; have n0_ := Aside0.mk (Kd.R_lower ho0 (below_size (by repeat (first | (with_reducible first | exact HB.out | apply below_alloc | apply pw_below_drewN | apply below_drew1) | exact HB.out)))); have n1_ := Aside0.mk (below_step (by repeat (first | (with_reducible first | exact HB.out | apply below_alloc | apply pw_below_drewN | apply below_drew1) | exact HB.out)) hb); clear HB; have HO259 := n0_; have HB := n1_; clear n0_ n1_; (try clear hb); (try clear hb2); (try clear hk); (try clear hi); (try clear ho0); obtain ⟨Ao16, co16, eo16⟩ := Kd.R_slice HO259.out; subst eo16) | ((with_reducible refine gate_callee (f := 23) rfl ?_); refine goesL_ (some 53) rfl rfl Try.func23 (by kernel_rfl) rfl #[.int .i64 (wrap64 (1 + (wrap64 (Int.tmod a0 30)))), .slice Ao16 t256.length co16, .int .i64 (wrap64 (a2))] rfl (by (try simp only [List.map_toArray, List.map_cons, List.map_nil]); first | done | rfl | (simp only [List.length_drop, List.length_take]; rfl)) ?_; (with_reducible refine (evenness_Transpose.calls k (wrap64 (1 + (wrap64 (Int.tmod a0 30)))) _ _ t256 (wrap64 (a2)) t260 t261 _ ?side1 ?side2 A10.out).mono ?_); (case side1 => repeat (first | exact (Kd.R_reads' HO259.out).2.2 | (with_reducible refine Kd.C_alloc ?_ _) | (with_reducible refine Kd.C_drewN ?_ _) | (with_reducible refine Kd.C_drew ?_))); (case side2 => exact (Kd.R_reads' HO259.out).2.1); rintro e w17 ⟨v262, rfl, ho0, hb⟩; refine ⟨_, rfl, ?_⟩; have n0_ := Aside0.mk (Kd.R_elder' (by (with_reducible repeat (first | apply Kd.R_alloc | apply Kd.R_drewN | apply Kd.R_drew)); exact HO259.out) (Kd.R_base ho0) hb); have n1_ := Aside0.mk (Kd.R_lower (Kd.R_new' ho0 (Kd.R_lt (by (with_reducible repeat (first | apply Kd.R_alloc | apply Kd.R_drewN | apply Kd.R_drew)); exact HO259.out))) (below_size (by repeat (first | (with_reducible first | exact HB.out | apply below_alloc | apply pw_below_drewN | apply below_drew1) | exact HB.out)))); have n2_ := Aside0.mk (below_step (by repeat (first | (with_reducible first | exact HB.out | apply below_alloc | apply pw_below_drewN | apply below_drew1) | exact HB.out)) hb); clear HO259; clear HB; have HO259 := n0_; have HO263 := n1_; have HB := n2_; clear n0_ n1_ n2_; (try clear hb); (try clear hb2); (try clear hk); (try clear hi); (try clear ho0)) | ((with_reducible refine gate_callee (f := 24) rfl ?_); refine goesL_ (some 59) rfl rfl Try.func24 (by kernel_rfl) rfl #[.int .i64 (wrap64 (1 + (wrap64 (Int.tmod a0 30)))), .slice Ao16 t256.length co16] rfl (by (try simp only [List.map_toArray, List.map_cons, List.map_nil]); first | done | rfl | (simp only [List.length_drop, List.length_take]; rfl)) ?_; (with_reducible refine (evenness_Inverse.calls k (wrap64 (1 + (wrap64 (Int.tmod a0 30)))) _ _ t256 t264 t265 _ ?side1 ?side2 A11.out).mono ?_); (case side1 => repeat (first | exact (Kd.R_reads' HO259.out).2.2 | (with_reducible refine Kd.C_alloc ?_ _) | (with_reducible refine Kd.C_drewN ?_ _) | (with_reducible refine Kd.C_drew ?_))); (case side2 => exact (Kd.R_reads' HO259.out).2.1); rintro e w18 ⟨v266, rfl, ho0, hb⟩; refine ⟨_, rfl, ?_⟩; have n0_ := Aside0.mk (Kd.R_elder' (by (with_reducible repeat (first | apply Kd.R_alloc | apply Kd.R_drewN | apply Kd.R_drew)); exact HO259.out) (Kd.R_base ho0) hb); have n1_ := Aside0.mk (Kd.R_elder' (by (with_reducible repeat (first | apply Kd.R_alloc | apply Kd.R_drewN | apply Kd.R_drew)); exact HO263.out) (Kd.R_base ho0) hb); have n2_ := Aside0.mk (Kd.R_lower (Kd.R_new' (Kd.R_new' ho0 (Kd.R_lt (by (with_reducible repeat (first | apply Kd.R_alloc | apply Kd.R_drewN | apply Kd.R_drew)); exact HO259.out))) (Kd.R_lt (by (with_reducible repeat (first | apply Kd.R_alloc | apply Kd.R_drewN | apply Kd.R_drew)); exact HO263.out))) (below_size (by repeat (first | (with_reducible first | exact HB.out | apply below_alloc | apply pw_below_drewN | apply below_drew1) | exact HB.out)))); have n3_ := Aside0.mk (below_step (by repeat (first | (with_reducible first | exact HB.out | apply below_alloc | apply pw_below_drewN | apply below_drew1) | exact HB.out)) hb); clear HO259; clear HO263; clear HB; have HO259 := n0_; have HO263 := n1_; have HO267 := n2_; have HB := n3_; clear n0_ n1_ n2_ n3_; (try clear hb); (try clear hb2); (try clear hk); (try clear hi); (try clear ho0)) | ((with_reducible refine gate_callee (f := 25) rfl ?_); refine goesL_ (some 65) rfl rfl Try.func25 (by kernel_rfl) rfl #[.int .i64 (wrap64 (1 + (wrap64 (Int.tmod a0 30)))), .slice Ao16 t256.length co16] rfl (by (try simp only [List.map_toArray, List.map_cons, List.map_nil]); first | done | rfl | (simp only [List.length_drop, List.length_take]; rfl)) ?_; (with_reducible refine (evenness_Rotations.calls k (wrap64 (1 + (wrap64 (Int.tmod a0 30)))) _ _ t256 t268 t269 _ ?side1 ?side2 A12.out).mono ?_); (case side1 => repeat (first | exact (Kd.R_reads' HO259.out).2.2 | (with_reducible refine Kd.C_alloc ?_ _) | (with_reducible refine Kd.C_drewN ?_ _) | (with_reducible refine Kd.C_drew ?_))); (case side2 => exact (Kd.R_reads' HO259.out).2.1); rintro e w19 ⟨v270, rfl, ho0, hb⟩; refine ⟨_, rfl, ?_⟩; have n0_ := Aside0.mk (Kd.R_below (by (with_reducible repeat (first | apply Kd.R_alloc | apply Kd.R_drewN | apply Kd.R_drew)); exact HO259.out) hb); have n1_ := Aside0.mk (Kd.R_below (by (with_reducible repeat (first | apply Kd.R_alloc | apply Kd.R_drewN | apply Kd.R_drew)); exact HO263.out) hb); have n2_ := Aside0.mk (Kd.R_below (by (with_reducible repeat (first | apply Kd.R_alloc | apply Kd.R_drewN | apply Kd.R_drew)); exact HO267.out) hb); have n3_ := Aside0.mk (Kd.N_lower (Kd.N_mono (ok' := fun k_ => some k_ ≠ (.slice Ao16 t256.length co16 : Value).ownBlock ∧ some k_ ≠ (v262 : Value).ownBlock ∧ some k_ ≠ (v266 : Value).ownBlock) (Kd.R_N (Kd.R_bound ho0)) (fun k_ hk_ => ⟨(Kd.fresh' (Kd.R_lt (by (with_reducible repeat (first | apply Kd.R_alloc | apply Kd.R_drewN | apply Kd.R_drew)); exact HO259.out)) k_ hk_.2.1), (Kd.fresh' (Kd.R_lt (by (with_reducible repeat (first | apply Kd.R_alloc | apply Kd.R_drewN | apply Kd.R_drew)); exact HO263.out)) k_ hk_.2.1), (Kd.fresh' (Kd.R_lt (by (with_reducible repeat (first | apply Kd.R_alloc | apply Kd.R_drewN | apply Kd.R_drew)); exact HO267.out)) k_ hk_.2.1)⟩)) (below_size (by repeat (first | (with_reducible first | exact HB.out | apply below_alloc | apply pw_below_drewN | apply below_drew1) | exact HB.out)))); have n4_ := Aside0.mk (below_step (by repeat (first | (with_reducible first | exact HB.out | apply below_alloc | apply pw_below_drewN | apply below_drew1) | exact HB.out)) hb); clear HO259; clear HO263; clear HO267; clear HB; have HO259 := n0_; have HO263 := n1_; have HO267 := n2_; have HO271 := n3_; have HB := n4_; clear n0_ n1_ n2_ n3_ n4_; (try clear hb); (try clear hb2); (try clear hk); (try clear hi); (try clear ho0)))
          (try simp only [Act.put, List.setIfInBounds_toArray, List.set_cons_zero, List.set_cons_succ])
          go_cut [89] (fun v89 wc => ∃ (kq : Nat) (x89_12 : Bool), v89 = .bool x89_12 ∧ Aside0 (schismalaw35_EvennessKeeps.j0 kq (wrap64 (1 + (wrap64 (Int.tmod a0 30)))) (wrap64 (1 + (Int.tmod (wrap64 (a1)) (wrap64 (1 + (wrap64 (Int.tmod a0 30))))))) t256 t260 t264 x89_12 = some r) ∧ Aside0 (kq ≤ k) ∧ Aside0 (Kd.R (Kd.int .i64) 3 wc w.heap.size (fun k_ => some k_ ≠ (v262 : Value).ownBlock ∧ some k_ ≠ (v266 : Value).ownBlock) (.slice Ao16 t256.length co16) t256) ∧ Aside0 (Kd.R (Kd.int .i64) 3 wc w.heap.size (fun k_ => some k_ ≠ ((.slice Ao16 t256.length co16) : Value).ownBlock ∧ some k_ ≠ (v266 : Value).ownBlock) v262 t260) ∧ Aside0 (Kd.R (Kd.int .i64) 3 wc w.heap.size (fun k_ => some k_ ≠ ((.slice Ao16 t256.length co16) : Value).ownBlock ∧ some k_ ≠ (v262 : Value).ownBlock) v266 t264) ∧ Aside0 (Below w.heap.size w wc))
          case first =>
            have H := HC13.out
            clear HC13
            by_cases c20 : t261 = 0
            · rw [if_pos c20] at H
              have c20b0 : (t261 == 0) = true := beq_iff_eq.mpr c20
              have c20b1 : (t261 != 0) = false := bne_eq_false_iff_eq.mpr c20
              clear c20
              (first | rw [c20b0] | (simp only [i64_w, i32_w]; rw [c20b0]) | skip)
              by_cases c21 : t265 = 0
              · rw [if_pos c21] at H
                have c21b0 : (t265 == 0) = true := beq_iff_eq.mpr c21
                have c21b1 : (t265 != 0) = false := bne_eq_false_iff_eq.mpr c21
                clear c21
                by_cases c22 : t269 = 0
                · rw [if_pos c22] at H
                  have c22b0 : (t269 == 0) = true := beq_iff_eq.mpr c22
                  have c22b1 : (t269 != 0) = false := bne_eq_false_iff_eq.mpr c22
                  clear c22
                  by_cases c23 : (t268.length : Int) = 0
                  · rw [if_pos c23] at H
                    have c23b0 : ((t268.length : Int) == 0) = true := beq_iff_eq.mpr c23
                    have c23b1 : ((t268.length : Int) != 0) = false := bne_eq_false_iff_eq.mpr c23
                    clear c23
                    have H' := Aside0.mk H
                    clear H
                    obtain ⟨Ao24, co24, eo24⟩ := Kd.N_slice HO271.out
                    subst eo24
                    go_wp2
                    go_meet
                    case rel => exact ⟨_, (true), (by first | rfl | (simp; done) | (simp [*]; done)), H', ⟨by first | omega | exact Nat.le_refl _⟩, ⟨by (with_reducible repeat (first | apply Kd.R_alloc | apply Kd.R_drewN | apply Kd.R_drew)); exact Kd.R_mono HO259.out (fun _ hk => ⟨hk.1.2, hk.2⟩)⟩, ⟨by (with_reducible repeat (first | apply Kd.R_alloc | apply Kd.R_drewN | apply Kd.R_drew)); exact Kd.R_mono HO263.out (fun _ hk => ⟨hk.1.2, hk.2⟩)⟩, ⟨by (with_reducible repeat (first | apply Kd.R_alloc | apply Kd.R_drewN | apply Kd.R_drew)); exact Kd.R_mono HO267.out (fun _ hk => ⟨hk.1.2, hk.2⟩)⟩, ⟨by repeat (first | (with_reducible first | exact HB.out | apply below_alloc | apply pw_below_drewN | apply below_drew1) | exact HB.out)⟩⟩
                  · rw [if_neg c23] at H
                    have c23b0 : ((t268.length : Int) == 0) = false := beq_eq_false_iff_ne.mpr c23
                    have c23b1 : ((t268.length : Int) != 0) = true := bne_iff_ne.mpr c23
                    have c23b2 : ¬ (t268 = []) := fun h_ => c23 (by rw [h_]; rfl)
                    have H' := Aside0.mk H
                    clear H
                    obtain ⟨Ao25, co25, eo25⟩ := Kd.N_slice HO271.out
                    subst eo25
                    go_wp2
                    go_meet
                    case rel => exact ⟨_, (((Int.tmod (wrap64 (1 + (wrap64 (Int.tmod a0 30)))) (t268.length : Int)) != 0)), (by first | rfl | (simp; done) | (simp [*]; done)), H', ⟨by first | omega | exact Nat.le_refl _⟩, ⟨by (with_reducible repeat (first | apply Kd.R_alloc | apply Kd.R_drewN | apply Kd.R_drew)); exact Kd.R_mono HO259.out (fun _ hk => ⟨hk.1.2, hk.2⟩)⟩, ⟨by (with_reducible repeat (first | apply Kd.R_alloc | apply Kd.R_drewN | apply Kd.R_drew)); exact Kd.R_mono HO263.out (fun _ hk => ⟨hk.1.2, hk.2⟩)⟩, ⟨by (with_reducible repeat (first | apply Kd.R_alloc | apply Kd.R_drewN | apply Kd.R_drew)); exact Kd.R_mono HO267.out (fun _ hk => ⟨hk.1.2, hk.2⟩)⟩, ⟨by repeat (first | (with_reducible first | exact HB.out | apply below_alloc | apply pw_below_drewN | apply below_drew1) | exact HB.out)⟩⟩
                · rw [if_neg c22] at H
                  have c22b0 : (t269 == 0) = false := beq_eq_false_iff_ne.mpr c22
                  have c22b1 : (t269 != 0) = true := bne_iff_ne.mpr c22
                  have H' := Aside0.mk H
                  clear H
                  go_wp2
                  go_meet
                  case rel => exact ⟨_, (true), (by first | rfl | (simp; done) | (simp [*]; done)), H', ⟨by first | omega | exact Nat.le_refl _⟩, ⟨by (with_reducible repeat (first | apply Kd.R_alloc | apply Kd.R_drewN | apply Kd.R_drew)); exact Kd.R_mono HO259.out (fun _ hk => ⟨hk.1.2, hk.2⟩)⟩, ⟨by (with_reducible repeat (first | apply Kd.R_alloc | apply Kd.R_drewN | apply Kd.R_drew)); exact Kd.R_mono HO263.out (fun _ hk => ⟨hk.1.2, hk.2⟩)⟩, ⟨by (with_reducible repeat (first | apply Kd.R_alloc | apply Kd.R_drewN | apply Kd.R_drew)); exact Kd.R_mono HO267.out (fun _ hk => ⟨hk.1.2, hk.2⟩)⟩, ⟨by repeat (first | (with_reducible first | exact HB.out | apply below_alloc | apply pw_below_drewN | apply below_drew1) | exact HB.out)⟩⟩
              · rw [if_neg c21] at H
                have c21b0 : (t265 == 0) = false := beq_eq_false_iff_ne.mpr c21
                have c21b1 : (t265 != 0) = true := bne_iff_ne.mpr c21
                have H' := Aside0.mk H
                clear H
                go_wp2
                go_meet
                case rel => exact ⟨_, (true), (by first | rfl | (simp; done) | (simp [*]; done)), H', ⟨by first | omega | exact Nat.le_refl _⟩, ⟨by (with_reducible repeat (first | apply Kd.R_alloc | apply Kd.R_drewN | apply Kd.R_drew)); exact Kd.R_mono HO259.out (fun _ hk => ⟨hk.1.2, hk.2⟩)⟩, ⟨by (with_reducible repeat (first | apply Kd.R_alloc | apply Kd.R_drewN | apply Kd.R_drew)); exact Kd.R_mono HO263.out (fun _ hk => ⟨hk.1.2, hk.2⟩)⟩, ⟨by (with_reducible repeat (first | apply Kd.R_alloc | apply Kd.R_drewN | apply Kd.R_drew)); exact Kd.R_mono HO267.out (fun _ hk => ⟨hk.1.2, hk.2⟩)⟩, ⟨by repeat (first | (with_reducible first | exact HB.out | apply below_alloc | apply pw_below_drewN | apply below_drew1) | exact HB.out)⟩⟩
            · rw [if_neg c20] at H
              have c20b0 : (t261 == 0) = false := beq_eq_false_iff_ne.mpr c20
              have c20b1 : (t261 != 0) = true := bne_iff_ne.mpr c20
              (first | rw [c20b0] | (simp only [i64_w, i32_w]; rw [c20b0]) | skip)
              have H' := Aside0.mk H
              clear H
              go_wp2
              go_meet
              case rel => exact ⟨_, (true), (by first | rfl | (simp; done) | (simp [*]; done)), H', ⟨by first | omega | exact Nat.le_refl _⟩, ⟨by (with_reducible repeat (first | apply Kd.R_alloc | apply Kd.R_drewN | apply Kd.R_drew)); exact Kd.R_mono HO259.out (fun _ hk => ⟨hk.1.2, hk.2⟩)⟩, ⟨by (with_reducible repeat (first | apply Kd.R_alloc | apply Kd.R_drewN | apply Kd.R_drew)); exact Kd.R_mono HO263.out (fun _ hk => ⟨hk.1.2, hk.2⟩)⟩, ⟨by (with_reducible repeat (first | apply Kd.R_alloc | apply Kd.R_drewN | apply Kd.R_drew)); exact Kd.R_mono HO267.out (fun _ hk => ⟨hk.1.2, hk.2⟩)⟩, ⟨by repeat (first | (with_reducible first | exact HB.out | apply below_alloc | apply pw_below_drewN | apply below_drew1) | exact HB.out)⟩⟩
          case rest =>
            clear HC13
            try clear c1
            try clear c2
            try clear p2
            try clear c5
            try clear c6
            try clear c6b0
            try clear c6b1
            try clear p6
            try clear c7
            try clear c7b0
            try clear c7b1
            try clear c9
            try clear c9b0
            try clear c9b1
            try clear c12
            try clear c13
            try clear c20
            try clear c20b0
            try clear c20b1
            try clear c21
            try clear c21b0
            try clear c21b1
            try clear c22
            try clear c22b0
            try clear c22b1
            try clear c23
            try clear c23b0
            try clear c23b1
            try clear c23b2
            try clear c24
            try clear c25
            obtain ⟨kq, x89_12, rfl, HA, HJ12, HO_9, HO_11, HO_13, HB⟩ := hcut
            cases kq with
            | zero => exact absurd HA.out (by simp [schismalaw35_EvennessKeeps.j0])
            | succ kj12 =>
              have H := HA.out
              clear HA
              simp only [schismalaw35_EvennessKeeps.j0] at H
              by_cases c26 : x89_12 = true
              · subst c26
                have H1 : (some false) = some r := by rw [if_pos rfl] at H; exact H
                clear H
                have H := H1
                clear H1
                obtain rfl := Option.some.inj H
                go_wp2
                go_ret
                exact ⟨by first | rfl | (simp [errW_none, errW_some] <;> rfl) | (simp [*, errW_none, errW_some] <;> rfl), by repeat (first | (with_reducible first | exact HB.out | apply below_alloc | apply pw_below_drewN | apply below_drew1) | exact HB.out)⟩
              · replace c26 := Bool.eq_false_iff.mpr c26
                subst c26
                have H1 : ((some (([t256, t260, t264] : List (List Int)) : List (List Int))).bind fun y272 => ((evenness_Complement.f kj12 (wrap64 (1 + (wrap64 (Int.tmod a0 30)))) t256).bind fun bt275 => (if bt275.2 = 0 then (if y272.length < 5864062014805 then (schismalaw35_EvennessKeeps.j1 kj12 (wrap64 (1 + (wrap64 (Int.tmod a0 30)))) (y272 ++ [bt275.1])) else (none)) else (if bt275.2 = 13 then (if (wrap64 (1 + (Int.tmod (wrap64 (a1)) (wrap64 (1 + (wrap64 (Int.tmod a0 30))))))) = (wrap64 (1 + (wrap64 (Int.tmod a0 30)))) then (schismalaw35_EvennessKeeps.j1 kj12 (wrap64 (1 + (wrap64 (Int.tmod a0 30)))) y272) else (some false)) else (some false))))) = some r := by rw [if_neg (show ¬ (false = true) by decide)] at H; exact H
                clear H
                have H := H1
                clear H1
                obtain ⟨y272, hy272⟩ : ∃ y_ : List (List Int), y_ = (([t256, t260, t264] : List (List Int))) := ⟨_, rfl⟩
                replace H : ((evenness_Complement.f kj12 (wrap64 (1 + (wrap64 (Int.tmod a0 30)))) t256).bind fun bt275 => (if bt275.2 = 0 then (if y272.length < 5864062014805 then (schismalaw35_EvennessKeeps.j1 kj12 (wrap64 (1 + (wrap64 (Int.tmod a0 30)))) (y272 ++ [bt275.1])) else (none)) else (if bt275.2 = 13 then (if (wrap64 (1 + (Int.tmod (wrap64 (a1)) (wrap64 (1 + (wrap64 (Int.tmod a0 30))))))) = (wrap64 (1 + (wrap64 (Int.tmod a0 30)))) then (schismalaw35_EvennessKeeps.j1 kj12 (wrap64 (1 + (wrap64 (Int.tmod a0 30)))) y272) else (some false)) else (some false)))) = some r := by first | (rw [hy272]; with_reducible exact H) | (have H2_ := (Option.bind_some _ _).symm.trans H; rw [hy272]; with_reducible exact H2_) | (have H2_ := (Option.bind_some _ _).symm.trans H; with_reducible exact H2_) | with_reducible exact H | (rw [hy272]; exact H) | exact H
                have Ny272 := Aside0.mk hy272
                clear hy272
                replace H := Option.bind_eq_some_iff.mp H
                obtain ⟨⟨t275, t276⟩, A270, H⟩ := H
                replace H : (if t276 = 0 then (if y272.length < 5864062014805 then (schismalaw35_EvennessKeeps.j1 kj12 (wrap64 (1 + (wrap64 (Int.tmod a0 30)))) (y272 ++ [t275])) else (none)) else (if t276 = 13 then (if (wrap64 (1 + (Int.tmod (wrap64 (a1)) (wrap64 (1 + (wrap64 (Int.tmod a0 30))))))) = (wrap64 (1 + (wrap64 (Int.tmod a0 30)))) then (schismalaw35_EvennessKeeps.j1 kj12 (wrap64 (1 + (wrap64 (Int.tmod a0 30)))) y272) else (some false)) else (some false))) = some r := H
                have A27 := Aside0.mk A270
                clear A270
                have HC28 := Aside0.mk H
                clear H
                obtain ⟨Ao29, co29, eo29⟩ := Kd.R_slice HO_11.out
                subst eo29
                obtain ⟨Ao30, co30, eo30⟩ := Kd.R_slice HO_13.out
                subst eo30
                go_upto_if 101 with (first | ((with_reducible refine gate_dst (N := 93) rfl ?_); (try (refine gate_guard (by rfl) ?_; dsimp only)); refine Kd.N_lit (Kd.slice 3 (Kd.int .i64)) _ 23 ?hg (N' := 93) ?hd (xs := ([t256, t260, t264] : List (List Int))) (inner := [.slice Ao16 t256.length co16, .slice Ao29 t260.length co29, .slice Ao30 t264.length co30]) (ok := (fun _ => True)) (okp := (fun _ => True)) ?hr ?hp (fun _ hk => hk) ((show ∀ k_, wc.heap.size ≤ k_ → (fun _ => True) k_ from fun k_ hk => trivial) _ (Nat.le_refl _)) (Below.refl _ _) (Nat.le_refl _) (by simp) ?_; (case hd => rfl); (case hg => rfl); (case hr => first | (go_simp; done) | (go_simp; rfl)); (case hp => exact (Reps.one (show Kd.FK (Kd.slice 3 (Kd.int .i64)) _ _ t256 [.slice Ao16 t256.length co16] from (Kd.FK_slice_mk (Kd.R_reads' (Kd.R_mono (ok' := (fun _ => True)) (HO_9.out) (fun k_ hk => trivial))).2.1 (Kd.R_F (Kd.R_mono (ok' := (fun _ => True)) (HO_9.out) (fun k_ hk => trivial))))) (Reps.one (show Kd.FK (Kd.slice 3 (Kd.int .i64)) _ _ t260 [.slice Ao29 t260.length co29] from (Kd.FK_slice_mk (Kd.R_reads' (Kd.R_mono (ok' := (fun _ => True)) (HO_11.out) (fun k_ hk => trivial))).2.1 (Kd.R_F (Kd.R_mono (ok' := (fun _ => True)) (HO_11.out) (fun k_ hk => trivial))))) (Reps.one (show Kd.FK (Kd.slice 3 (Kd.int .i64)) _ _ t264 [.slice Ao30 t264.length co30] from (Kd.FK_slice_mk (Kd.R_reads' (Kd.R_mono (ok' := (fun _ => True)) (HO_13.out) (fun k_ hk => trivial))).2.1 (Kd.R_F (Kd.R_mono (ok' := (fun _ => True)) (HO_13.out) (fun k_ hk => trivial))))) (Reps.none _ _))))); intro v273 w31 ho32 hb hg_ hnew_; clear hg_ hnew_; (first | rw [← Ny272.out] at ho32 | (simp only [Int.reduceToNat] at ho32; rw [← Ny272.out] at ho32)); have n0_ := Aside0.mk (Kd.N_lower ho32 (below_size (by repeat (first | (with_reducible first | exact HB.out | apply below_alloc | apply pw_below_drewN | apply below_drew1) | exact HB.out)))); have n1_ := Aside0.mk (below_step (by repeat (first | (with_reducible first | exact HB.out | apply below_alloc | apply pw_below_drewN | apply below_drew1) | exact HB.out)) hb); clear HB; have n09_ := Aside0.mk (Kd.R_below HO_11.out hb); have n19_ := Aside0.mk (Kd.R_below HO_13.out hb); have n29_ := Aside0.mk (Kd.R_below HO_9.out hb); clear HO_11; clear HO_13; clear HO_9; have HO_11 := n09_; clear n09_; have HO_13 := n19_; clear n19_; have HO_9 := n29_; clear n29_; have HO274 := n0_; have HB := n1_; clear n0_ n1_; clear hb ho32) | ((with_reducible refine gate_callee (f := 26) rfl ?_); refine goesL_ (some 97) rfl rfl Try.func26 (by kernel_rfl) rfl #[.int .i64 (wrap64 (1 + (wrap64 (Int.tmod a0 30)))), .slice Ao16 t256.length co16] rfl (by (try simp only [List.map_toArray, List.map_cons, List.map_nil]); first | done | rfl | (simp only [List.length_drop, List.length_take]; rfl)) ?_; (with_reducible refine (evenness_Complement.calls kj12 (wrap64 (1 + (wrap64 (Int.tmod a0 30)))) _ _ t256 t275 t276 _ ?side1 ?side2 A27.out).mono ?_); (case side1 => repeat (first | exact (Kd.R_reads' HO_9.out).2.2 | (with_reducible refine Kd.C_alloc ?_ _) | (with_reducible refine Kd.C_drewN ?_ _) | (with_reducible refine Kd.C_drew ?_))); (case side2 => exact (Kd.R_reads' HO_9.out).2.1); rintro e w33 ⟨v277, rfl, ho0, hb⟩; refine ⟨_, rfl, ?_⟩; have n0_ := Aside0.mk (Kd.N_elder' (by (with_reducible repeat (first | apply Kd.N_alloc | apply Kd.N_drewN | apply Kd.N_drew)); exact HO274.out) (Kd.R_base ho0) hb); have n1_ := Aside0.mk (Kd.R_lower ho0 (below_size (by repeat (first | (with_reducible first | exact HB.out | apply below_alloc | apply pw_below_drewN | apply below_drew1) | exact HB.out)))); have n2_ := Aside0.mk (below_step (by repeat (first | (with_reducible first | exact HB.out | apply below_alloc | apply pw_below_drewN | apply below_drew1) | exact HB.out)) hb); clear HO274; clear HB; have HO274 := n0_; have HO278 := n1_; have HB := n2_; clear n0_ n1_ n2_; (try clear hb); (try clear hb2); (try clear hk); (try clear hi); (try clear ho0)))
                (try simp only [Act.put, List.setIfInBounds_toArray, List.set_cons_zero, List.set_cons_succ])
                go_cut [17] (fun v17 wc => ∃ (kq : Nat) (x17_27 : List (List Int)), Aside0 (schismalaw35_EvennessKeeps.j1 kq (wrap64 (1 + (wrap64 (Int.tmod a0 30)))) x17_27 = some r) ∧ Aside0 (kq ≤ kj12) ∧ Aside0 (Kd.N (Kd.slice 3 (Kd.int .i64)) 23 wc w.heap.size (fun _ => True) v17 x17_27) ∧ Aside0 (Below w.heap.size w wc))
                case first =>
                  have H := HC28.out
                  clear HC28
                  by_cases c34 : t276 = 0
                  · rw [if_pos c34] at H
                    have c34b0 : (t276 == 0) = true := beq_iff_eq.mpr c34
                    have c34b1 : (t276 != 0) = false := bne_eq_false_iff_eq.mpr c34
                    clear c34
                    (first | rw [c34b0] | (simp only [i64_w, i32_w]; rw [c34b0]) | skip)
                    by_cases c35 : y272.length < 5864062014805
                    · rw [if_pos c35] at H
                      have LMc35 := Aside0.mk c35
                      clear c35
                      obtain ⟨y279, hy279⟩ : ∃ y_ : List (List Int), y_ = (y272 ++ [t275]) := ⟨_, rfl⟩
                      replace H : (schismalaw35_EvennessKeeps.j1 kj12 (wrap64 (1 + (wrap64 (Int.tmod a0 30)))) y279) = some r := by first | (rw [hy279]; with_reducible exact H) | (have H2_ := (Option.bind_some _ _).symm.trans H; rw [hy279]; with_reducible exact H2_) | (have H2_ := (Option.bind_some _ _).symm.trans H; with_reducible exact H2_) | with_reducible exact H | (rw [hy279]; exact H) | exact H
                      have Ny279 := Aside0.mk hy279
                      clear hy279
                      have H' := Aside0.mk H
                      clear H
                      obtain ⟨Ao37, co37, eo37⟩ := Kd.R_slice HO278.out
                      subst eo37
                      go_wp2_with (first | ((with_reducible refine gate_builtin (b := .append) (xs := #[.tmp 102, .tmp 104]) rfl ?_); (try (refine gate_guard (by rfl) ?_; dsimp only)); at_builtin; refine Kd.N_append (Kd.slice 3 (Kd.int .i64)) (w0 := w) w.heap.size rfl (.tmp 102) (.tmp 104) 42 23 (.slice none 0 0) 24 rfl Try.underlying42 info23 rfl (by decide) (by omega) v273 y272 t275 [.slice Ao37 t275.length co37] (fun _ => True) (fun k_ => ((fun _ => True)) k_ ∧ some k_ ≠ (v273 : Value).ownBlock) rfl rfl ?aP (fun _ hk => hk) ?aF ?aO ?aB ?aS ?aL ?_; (case aP => exact (Kd.FK_slice_mk (Kd.R_reads' (Kd.R_mono (ok' := (fun k_ => ((fun _ => True)) k_ ∧ some k_ ≠ (v273 : Value).ownBlock)) (Kd.R_apart' (HO278.out) (Kd.N_typed HO274.out) (by decide)) (fun k_ hk => ⟨trivial, hk.2⟩))).2.1 (Kd.R_F (Kd.R_mono (ok' := (fun k_ => ((fun _ => True)) k_ ∧ some k_ ≠ (v273 : Value).ownBlock)) (Kd.R_apart' (HO278.out) (Kd.N_typed HO274.out) (by decide)) (fun k_ hk => ⟨trivial, hk.2⟩))))); (case aB => exact (by repeat (first | (with_reducible first | exact HB.out | apply below_alloc | apply pw_below_drewN | apply below_drew1) | exact HB.out))); (case aF => exact (fun _ _ => trivial)); (case aO => exact (by (with_reducible repeat (first | apply Kd.N_alloc | apply Kd.N_drewN | apply Kd.N_drew)); exact Kd.N_mono HO274.out (fun _ hk => trivial))); (case aS => exact (below_size (by repeat (first | (with_reducible first | exact HB.out | apply below_alloc | apply pw_below_drewN | apply below_drew1) | exact HB.out)))); (case aL => have := LMc35.out; omega); intro v280 w36 ho hb hg hat; rw [← Ny279.out] at ho; have n0_ := Aside0.mk (hb); have n1_ := Aside0.mk (ho); clear HB; clear HO274; clear HO278; have HB := n0_; have HO281 := n1_; clear n0_ n1_; clear ho hb hg hat))
                      go_meet
                      case rel => exact ⟨_, (y279), H', ⟨by have := HJ12.out; first | omega | exact Nat.le_refl _⟩, ⟨by (with_reducible repeat (first | apply Kd.N_alloc | apply Kd.N_drewN | apply Kd.N_drew)); exact HO281.out⟩, ⟨by repeat (first | (with_reducible first | exact HB.out | apply below_alloc | apply pw_below_drewN | apply below_drew1) | exact HB.out)⟩⟩
                    · rw [if_neg c35] at H
                      exact absurd H (by simp)
                  · rw [if_neg c34] at H
                    have c34b0 : (t276 == 0) = false := beq_eq_false_iff_ne.mpr c34
                    have c34b1 : (t276 != 0) = true := bne_iff_ne.mpr c34
                    (first | rw [c34b0] | (simp only [i64_w, i32_w]; rw [c34b0]) | skip)
                    by_cases c38 : t276 = 13
                    · rw [if_pos c38] at H
                      have c38b0 : (t276 == 13) = true := beq_iff_eq.mpr c38
                      have c38b1 : (t276 != 13) = false := bne_eq_false_iff_eq.mpr c38
                      clear c38
                      by_cases c39 : (wrap64 (1 + (Int.tmod (wrap64 (a1)) (wrap64 (1 + (wrap64 (Int.tmod a0 30))))))) = (wrap64 (1 + (wrap64 (Int.tmod a0 30))))
                      · rw [if_pos c39] at H
                        have c39b0 : ((wrap64 (1 + (Int.tmod (wrap64 (a1)) (wrap64 (1 + (wrap64 (Int.tmod a0 30))))))) == (wrap64 (1 + (wrap64 (Int.tmod a0 30))))) = true := beq_iff_eq.mpr c39
                        have c39b1 : ((wrap64 (1 + (Int.tmod (wrap64 (a1)) (wrap64 (1 + (wrap64 (Int.tmod a0 30))))))) != (wrap64 (1 + (wrap64 (Int.tmod a0 30))))) = false := bne_eq_false_iff_eq.mpr c39
                        clear c39
                        have H' := Aside0.mk H
                        clear H
                        go_wp2
                        go_meet
                        case rel => exact ⟨_, (y272), H', ⟨by have := HJ12.out; first | omega | exact Nat.le_refl _⟩, ⟨by (with_reducible repeat (first | apply Kd.N_alloc | apply Kd.N_drewN | apply Kd.N_drew)); exact Kd.N_mono HO274.out (fun _ hk => trivial)⟩, ⟨by repeat (first | (with_reducible first | exact HB.out | apply below_alloc | apply pw_below_drewN | apply below_drew1) | exact HB.out)⟩⟩
                      · rw [if_neg c39] at H
                        have c39b0 : ((wrap64 (1 + (Int.tmod (wrap64 (a1)) (wrap64 (1 + (wrap64 (Int.tmod a0 30))))))) == (wrap64 (1 + (wrap64 (Int.tmod a0 30))))) = false := beq_eq_false_iff_ne.mpr c39
                        have c39b1 : ((wrap64 (1 + (Int.tmod (wrap64 (a1)) (wrap64 (1 + (wrap64 (Int.tmod a0 30))))))) != (wrap64 (1 + (wrap64 (Int.tmod a0 30))))) = true := bne_iff_ne.mpr c39
                        obtain rfl := Option.some.inj H
                        go_wp2
                        go_ret
                        exact ⟨by first | rfl | (simp [errW_none, errW_some] <;> rfl) | (simp [*, errW_none, errW_some] <;> rfl), by repeat (first | (with_reducible first | exact HB.out | apply below_alloc | apply pw_below_drewN | apply below_drew1) | exact HB.out)⟩
                    · rw [if_neg c38] at H
                      have c38b0 : (t276 == 13) = false := beq_eq_false_iff_ne.mpr c38
                      have c38b1 : (t276 != 13) = true := bne_iff_ne.mpr c38
                      obtain rfl := Option.some.inj H
                      go_wp2
                      go_ret
                      exact ⟨by first | rfl | (simp [errW_none, errW_some] <;> rfl) | (simp [*, errW_none, errW_some] <;> rfl), by repeat (first | (with_reducible first | exact HB.out | apply below_alloc | apply pw_below_drewN | apply below_drew1) | exact HB.out)⟩
                case rest =>
                  clear HC28
                  try clear c1
                  try clear c2
                  try clear p2
                  try clear c3
                  try clear c5
                  try clear c6
                  try clear c6b0
                  try clear c6b1
                  try clear p6
                  try clear c7
                  try clear c7b0
                  try clear c7b1
                  try clear c9
                  try clear c9b0
                  try clear c9b1
                  try clear c12
                  try clear c13
                  try clear c20
                  try clear c20b0
                  try clear c20b1
                  try clear c21
                  try clear c21b0
                  try clear c21b1
                  try clear c22
                  try clear c22b0
                  try clear c22b1
                  try clear c23
                  try clear c23b0
                  try clear c23b1
                  try clear c23b2
                  try clear c24
                  try clear c25
                  try clear c26
                  try clear c34
                  try clear c34b0
                  try clear c34b1
                  try clear c35
                  try clear c38
                  try clear c38b0
                  try clear c38b1
                  try clear c39
                  try clear c39b0
                  try clear c39b1
                  try clear p2
                  try clear p6
                  obtain ⟨kq, x17_27, HA, HJ27, HO_17, HB⟩ := hcut
                  cases kq with
                  | zero => exact absurd HA.out (by simp [schismalaw35_EvennessKeeps.j1])
                  | succ kj27 =>
                    have H := HA.out
                    clear HA
                    simp only [schismalaw35_EvennessKeeps.j1] at H
                    have H' := Aside0.mk H
                    clear H
                    obtain ⟨Ao40, co40, eo40⟩ := Kd.N_slice HO_17.out
                    subst eo40
                    go_wp2
                    go_loopg [115] kj27 (fun kq v115 w' => ∃ (x115_3 : Int), v115 = .int .i64 x115_3 ∧ Aside0 (schismalaw35_EvennessKeeps.l0 kq (wrap64 (1 + (wrap64 (Int.tmod a0 30)))) x17_27 (x17_27.length : Int) x115_3 = some r) ∧ Aside0 (kq ≤ kj27) ∧ Aside0 (Kd.N (Kd.slice 3 (Kd.int .i64)) 23 w' w.heap.size (fun _ => True) (.slice Ao40 x17_27.length co40) x17_27) ∧ Aside0 (Below w.heap.size w w'))
                    case atStart => exact ⟨(0), (by first | rfl | (simp; done) | (simp [*]; done)), H', ⟨Nat.le_refl _⟩, ⟨by (with_reducible repeat (first | apply Kd.N_alloc | apply Kd.N_drewN | apply Kd.N_drew)); exact HO_17.out⟩, ⟨by repeat (first | (with_reducible first | exact HB.out | apply below_alloc | apply pw_below_drewN | apply below_drew1) | exact HB.out)⟩⟩
                    case round =>
                      clear H'
                      try clear c1
                      try clear c2
                      try clear p2
                      try clear c3
                      try clear c5
                      try clear c6
                      try clear c6b0
                      try clear c6b1
                      try clear p6
                      try clear c7
                      try clear c7b0
                      try clear c7b1
                      try clear c9
                      try clear c9b0
                      try clear c9b1
                      try clear c12
                      try clear c13
                      try clear c20
                      try clear c20b0
                      try clear c20b1
                      try clear c21
                      try clear c21b0
                      try clear c21b1
                      try clear c22
                      try clear c22b0
                      try clear c22b1
                      try clear c23
                      try clear c23b0
                      try clear c23b1
                      try clear c23b2
                      try clear c24
                      try clear c25
                      try clear c26
                      try clear c34
                      try clear c34b0
                      try clear c34b1
                      try clear c35
                      try clear c38
                      try clear c38b0
                      try clear c38b1
                      try clear c39
                      try clear c39b0
                      try clear c39b1
                      try clear p2
                      try clear p6
                      obtain ⟨x115_3, rfl, HA, HK3, HO_113, HB⟩ := hrel
                      cases gk with
                      | zero => exact absurd HA.out (by simp [schismalaw35_EvennessKeeps.l0])
                      | succ k3 =>
                        have H := HA.out
                        clear HA
                        simp only [schismalaw35_EvennessKeeps.l0] at H
                        by_cases c41 : x115_3 < (x17_27.length : Int)
                        · rw [if_pos c41] at H
                          have c41b0 : decide (x115_3 < (x17_27.length : Int)) = true := decide_eq_true c41
                          clear c41
                          by_cases c42 : 0 ≤ x115_3
                          · rw [if_pos c42] at H
                            have c42b0 : decide (0 ≤ x115_3) = true := decide_eq_true c42
                            clear c42
                            by_cases c43 : x115_3 < (x17_27.length : Int)
                            · rw [if_pos c43] at H
                              have c43b0 : decide (x115_3 < (x17_27.length : Int)) = true := decide_eq_true c43
                              clear c43
                              replace H := Option.bind_eq_some_iff.mp H
                              obtain ⟨⟨t283, t284, t285, t286, t287⟩, A440, H⟩ := H
                              replace H : (if t287 = 0 then (if t283 = true then (schismalaw35_EvennessKeeps.l0 k3 (wrap64 (1 + (wrap64 (Int.tmod a0 30)))) x17_27 (x17_27.length : Int) (wrap64 (x115_3 + 1))) else (some false)) else (some false)) = some r := H
                              have A44 := Aside0.mk A440
                              clear A440
                              by_cases c45 : t287 = 0
                              · rw [if_pos c45] at H
                                have c45b0 : (t287 == 0) = true := beq_iff_eq.mpr c45
                                have c45b1 : (t287 != 0) = false := bne_eq_false_iff_eq.mpr c45
                                clear c45
                                by_cases c46 : t283 = true
                                · subst c46
                                  have H1 : (schismalaw35_EvennessKeeps.l0 k3 (wrap64 (1 + (wrap64 (Int.tmod a0 30)))) x17_27 (x17_27.length : Int) (wrap64 (x115_3 + 1))) = some r := by rw [if_pos rfl] at H; exact H
                                  clear H
                                  have H := H1
                                  clear H1
                                  have H' := Aside0.mk H
                                  clear H
                                  have p282 : 0 ≤ (x115_3 : Int) := of_decide_eq_true (by first | (with_reducible assumption) | assumption)
                                  have q282 : x115_3 < (x17_27.length : Int) := of_decide_eq_true (by first | (with_reducible assumption) | assumption)
                                  obtain ⟨ad282, A282_0, c282_0, e282, hx282_0, hl282_0, hi282_0⟩ := at_L1 (Kd.N_reads' HO_113.out).2.2 x115_3 p282 q282
                                  cases e282
                                  obtain ⟨ce282, hce282, hMe282, hcc282⟩ := Kd.N_get HO_113.out [] x115_3 p282 (by first | exact q282 | exact of_decide_eq_true (by first | (with_reducible assumption) | assumption) | (have e_ := (Kd.N_reads' HO_113.out).1; omega))
                                  obtain ⟨ua282_0, uc282_0, rfl, ul282_0, ge282_0⟩ := Kd.FK_slice_open hMe282
                                  have hv282_0 := hcc282 0 _ rfl
                                  rw [Nat.add_zero, show ((Kd.slice 3 (Kd.int .i64))).sz = 1 from rfl, Nat.mul_one] at hv282_0
                                  replace hv282_0 := Option.some.inj (hv282_0.symm.trans hx282_0)
                                  injection hv282_0 with hva_ hvn_ hvc_
                                  rw [hva_] at ge282_0
                                  rw [hvc_] at ul282_0
                                  have HL282_0 := Aside0.mk (show Kd.V (Kd.int .i64) 3 _ w.heap.size _ _ (rd_L1 x17_27 x115_3) from Kd.V_mk ul282_0 ge282_0)
                                  clear hva_ hvn_ hvc_ ge282_0 ul282_0
                                  clear hcc282 hce282
                                  have HR282_0 := Aside0.mk hi282_0
                                  have HC282_0 := Aside0.mk hl282_0
                                  clear hi282_0 hl282_0
                                  replace p282 := eq_true p282
                                  replace q282 := eq_true q282
                                  go_wp2_with (first | ((with_reducible refine gate_callee (f := 27) rfl ?_); refine goesL_ (some 122) rfl rfl Try.func27 (by kernel_rfl) rfl #[.int .i64 (wrap64 (1 + (wrap64 (Int.tmod a0 30)))), .slice A282_0 (rd_L1 x17_27 x115_3).length c282_0] rfl (by (try simp only [List.map_toArray, List.map_cons, List.map_nil]); first | done | rfl | (simp only [List.length_drop, List.length_take]; rfl)) ?_; (with_reducible refine (evenness_IsEven.calls k3 (wrap64 (1 + (wrap64 (Int.tmod a0 30)))) _ _ (rd_L1 x17_27 x115_3) true t284 t285 t286 t287 _ ?side1 ?side2 A44.out).mono ?_); (case side1 => repeat (first | exact (by repeat (first | (with_reducible exact HR282_0.out) | (with_reducible refine Kd.C_alloc ?_ _) | (with_reducible refine Kd.C_drewN ?_ _) | (with_reducible refine Kd.C_drew ?_) | exact HR282_0.out)) | (with_reducible refine Kd.C_alloc ?_ _) | (with_reducible refine Kd.C_drewN ?_ _) | (with_reducible refine Kd.C_drew ?_))); (case side2 => exact HC282_0.out); rintro e w47 ⟨rfl, hb⟩; refine ⟨_, rfl, ?_⟩; have n0_ := Aside0.mk (Kd.N_below (by (with_reducible repeat (first | apply Kd.N_alloc | apply Kd.N_drewN | apply Kd.N_drew)); exact HO_113.out) hb); have n1_ := Aside0.mk (Kd.V_below (by (with_reducible repeat (first | apply Kd.V_alloc | apply Kd.V_drewN | apply Kd.V_drew)); exact HL282_0.out) hb); have n2_ := Aside0.mk (Kd.C_below (by repeat (first | (with_reducible exact HR282_0.out) | (with_reducible refine Kd.C_alloc ?_ _) | (with_reducible refine Kd.C_drewN ?_ _) | (with_reducible refine Kd.C_drew ?_) | exact HR282_0.out)) hb); have n3_ := Aside0.mk (below_step (by repeat (first | (with_reducible first | exact HB.out | apply below_alloc | apply pw_below_drewN | apply below_drew1) | exact HB.out)) hb); clear HO_113; clear HL282_0; clear HR282_0; clear HB; have HO_113 := n0_; have HL282_0 := n1_; have HR282_0 := n2_; have HB := n3_; clear n0_ n1_ n2_ n3_; (try clear hb); (try clear hb2); (try clear hk); (try clear hi)) | ((with_reducible refine gate_dst (N := 23) rfl ?_); (try (refine gate_guard (by rfl) ?_; dsimp only)); refine box_event ?hg (N := 23) ?hd (cs := #[.int .i64 0, .int .i64 0, .int .i64 0]) (t := 46) ?hr ?_; (case hd => rfl); (case hg => rfl); (case hr => first | (go_simp; done) | (go_simp; rfl)); intro gb288 hg w48 hbox hb; have n0_ := Aside0.mk (Kd.N_below (Kd.N_elderB (by (with_reducible repeat (first | apply Kd.N_alloc | apply Kd.N_drewN | apply Kd.N_drew)); exact HO_113.out) gb288 (Nat.le_of_eq hg.symm)) hb); have n1_ := Aside0.mk (Kd.V_below (Kd.V_elderB (by (with_reducible repeat (first | apply Kd.V_alloc | apply Kd.V_drewN | apply Kd.V_drew)); exact HL282_0.out) gb288 (Nat.le_of_eq hg.symm)) hb); have n2_ := Aside0.mk (Kd.C_below (by repeat (first | (with_reducible exact HR282_0.out) | (with_reducible refine Kd.C_alloc ?_ _) | (with_reducible refine Kd.C_drewN ?_ _) | (with_reducible refine Kd.C_drew ?_) | exact HR282_0.out)) hb); have n3_ := Aside0.mk (below_step (by repeat (first | (with_reducible first | exact HB.out | apply below_alloc | apply pw_below_drewN | apply below_drew1) | exact HB.out)) hb); have n4_ := Aside0.mk (hbox); have n5_ := Aside0.mk ((by rw [hg]; exact (below_size (by repeat (first | (with_reducible first | exact HB.out | apply below_alloc | apply pw_below_drewN | apply below_drew1) | exact HB.out))) : w.heap.size ≤ gb288)); have n6_ := Aside0.mk ((by rw [hg]; exact (below_size (by repeat (first | (with_reducible first | exact HB.out | apply below_alloc | apply pw_below_drewN | apply below_drew1) | exact HB.out))) : w.heap.size ≤ gb288)); clear HO_113; clear HL282_0; clear HR282_0; clear HB; have HO_113 := n0_; have HL282_0 := n1_; have HR282_0 := n2_; have HB := n3_; have BK288 := n4_; have GW288 := n5_; have GE288 := n6_; clear n0_ n1_ n2_ n3_ n4_ n5_ n6_; clear hb hbox hg; have hcz49_0 : w48.cell? ⟨gb288, 0, none⟩ = some (.int .i64 0) := (blk_cell BK288.out 0).trans rfl; have hcz49_1 : w48.cell? ⟨gb288, 1, none⟩ = some (.int .i64 0) := (blk_cell BK288.out 1).trans rfl; have hcz49_2 : w48.cell? ⟨gb288, 2, none⟩ = some (.int .i64 0) := (blk_cell BK288.out 2).trans rfl; have hfz49_0 := blk_frozen BK288.out 0; have hfz49_1 := blk_frozen BK288.out 1; have hfz49_2 := blk_frozen BK288.out 2))
                                  go_roundg k3
                                  case measure => have := HJ12.out; have := HJ27.out; have := HK3.out; omega
                                  case rel => exact ⟨(wrap64 (x115_3 + 1)), (by first | rfl | (simp; done) | (simp [*]; done)), H', ⟨by have := HJ12.out; have := HJ27.out; have := HK3.out; omega⟩, ⟨by (with_reducible repeat (first | apply Kd.N_alloc | apply Kd.N_drewN | apply Kd.N_drew)); exact Kd.N_mono (Kd.N_far (p := ⟨gb288, 2, none⟩) (Kd.N_far (p := ⟨gb288, 1, none⟩) (Kd.N_far (p := ⟨gb288, 0, none⟩) (Kd.N_mono HO_113.out (fun k_ hk => (⟨hk, hk.2⟩ : _ ∧ k_ ≠ gb288))) (fun _ hk => hk.2) (.int .i64 t284)) (fun _ hk => hk.2) (.int .i64 t285)) (fun _ hk => hk.2) (.int .i64 t286)) (fun _ hk => trivial)⟩, ⟨by repeat (first | (with_reducible first | exact HB.out | apply below_alloc | apply pw_below_drewN | apply below_drew1 | refine below_set ?_ GE288.out) | exact HB.out)⟩⟩
                                · replace c46 := Bool.eq_false_iff.mpr c46
                                  subst c46
                                  have H1 : (some false) = some r := by rw [if_neg (show ¬ (false = true) by decide)] at H; exact H
                                  clear H
                                  have H := H1
                                  clear H1
                                  obtain rfl := Option.some.inj H
                                  have p282 : 0 ≤ (x115_3 : Int) := of_decide_eq_true (by first | (with_reducible assumption) | assumption)
                                  have q282 : x115_3 < (x17_27.length : Int) := of_decide_eq_true (by first | (with_reducible assumption) | assumption)
                                  obtain ⟨ad282, A282_0, c282_0, e282, hx282_0, hl282_0, hi282_0⟩ := at_L1 (Kd.N_reads' HO_113.out).2.2 x115_3 p282 q282
                                  cases e282
                                  obtain ⟨ce282, hce282, hMe282, hcc282⟩ := Kd.N_get HO_113.out [] x115_3 p282 (by first | exact q282 | exact of_decide_eq_true (by first | (with_reducible assumption) | assumption) | (have e_ := (Kd.N_reads' HO_113.out).1; omega))
                                  obtain ⟨ua282_0, uc282_0, rfl, ul282_0, ge282_0⟩ := Kd.FK_slice_open hMe282
                                  have hv282_0 := hcc282 0 _ rfl
                                  rw [Nat.add_zero, show ((Kd.slice 3 (Kd.int .i64))).sz = 1 from rfl, Nat.mul_one] at hv282_0
                                  replace hv282_0 := Option.some.inj (hv282_0.symm.trans hx282_0)
                                  injection hv282_0 with hva_ hvn_ hvc_
                                  rw [hva_] at ge282_0
                                  rw [hvc_] at ul282_0
                                  have HL282_0 := Aside0.mk (show Kd.V (Kd.int .i64) 3 _ w.heap.size _ _ (rd_L1 x17_27 x115_3) from Kd.V_mk ul282_0 ge282_0)
                                  clear hva_ hvn_ hvc_ ge282_0 ul282_0
                                  clear hcc282 hce282
                                  have HR282_0 := Aside0.mk hi282_0
                                  have HC282_0 := Aside0.mk hl282_0
                                  clear hi282_0 hl282_0
                                  replace p282 := eq_true p282
                                  replace q282 := eq_true q282
                                  go_wp2_with (first | ((with_reducible refine gate_callee (f := 27) rfl ?_); refine goesL_ (some 122) rfl rfl Try.func27 (by kernel_rfl) rfl #[.int .i64 (wrap64 (1 + (wrap64 (Int.tmod a0 30)))), .slice A282_0 (rd_L1 x17_27 x115_3).length c282_0] rfl (by (try simp only [List.map_toArray, List.map_cons, List.map_nil]); first | done | rfl | (simp only [List.length_drop, List.length_take]; rfl)) ?_; (with_reducible refine (evenness_IsEven.calls k3 (wrap64 (1 + (wrap64 (Int.tmod a0 30)))) _ _ (rd_L1 x17_27 x115_3) false t284 t285 t286 t287 _ ?side1 ?side2 A44.out).mono ?_); (case side1 => repeat (first | exact (by repeat (first | (with_reducible exact HR282_0.out) | (with_reducible refine Kd.C_alloc ?_ _) | (with_reducible refine Kd.C_drewN ?_ _) | (with_reducible refine Kd.C_drew ?_) | exact HR282_0.out)) | (with_reducible refine Kd.C_alloc ?_ _) | (with_reducible refine Kd.C_drewN ?_ _) | (with_reducible refine Kd.C_drew ?_))); (case side2 => exact HC282_0.out); rintro e w50 ⟨rfl, hb⟩; refine ⟨_, rfl, ?_⟩; have n0_ := Aside0.mk (Kd.N_below (by (with_reducible repeat (first | apply Kd.N_alloc | apply Kd.N_drewN | apply Kd.N_drew)); exact HO_113.out) hb); have n1_ := Aside0.mk (Kd.V_below (by (with_reducible repeat (first | apply Kd.V_alloc | apply Kd.V_drewN | apply Kd.V_drew)); exact HL282_0.out) hb); have n2_ := Aside0.mk (Kd.C_below (by repeat (first | (with_reducible exact HR282_0.out) | (with_reducible refine Kd.C_alloc ?_ _) | (with_reducible refine Kd.C_drewN ?_ _) | (with_reducible refine Kd.C_drew ?_) | exact HR282_0.out)) hb); have n3_ := Aside0.mk (below_step (by repeat (first | (with_reducible first | exact HB.out | apply below_alloc | apply pw_below_drewN | apply below_drew1) | exact HB.out)) hb); clear HO_113; clear HL282_0; clear HR282_0; clear HB; have HO_113 := n0_; have HL282_0 := n1_; have HR282_0 := n2_; have HB := n3_; clear n0_ n1_ n2_ n3_; (try clear hb); (try clear hb2); (try clear hk); (try clear hi)) | ((with_reducible refine gate_dst (N := 23) rfl ?_); (try (refine gate_guard (by rfl) ?_; dsimp only)); refine box_event ?hg (N := 23) ?hd (cs := #[.int .i64 0, .int .i64 0, .int .i64 0]) (t := 46) ?hr ?_; (case hd => rfl); (case hg => rfl); (case hr => first | (go_simp; done) | (go_simp; rfl)); intro gb288 hg w51 hbox hb; have n0_ := Aside0.mk (Kd.N_below (Kd.N_elderB (by (with_reducible repeat (first | apply Kd.N_alloc | apply Kd.N_drewN | apply Kd.N_drew)); exact HO_113.out) gb288 (Nat.le_of_eq hg.symm)) hb); have n1_ := Aside0.mk (Kd.V_below (Kd.V_elderB (by (with_reducible repeat (first | apply Kd.V_alloc | apply Kd.V_drewN | apply Kd.V_drew)); exact HL282_0.out) gb288 (Nat.le_of_eq hg.symm)) hb); have n2_ := Aside0.mk (Kd.C_below (by repeat (first | (with_reducible exact HR282_0.out) | (with_reducible refine Kd.C_alloc ?_ _) | (with_reducible refine Kd.C_drewN ?_ _) | (with_reducible refine Kd.C_drew ?_) | exact HR282_0.out)) hb); have n3_ := Aside0.mk (below_step (by repeat (first | (with_reducible first | exact HB.out | apply below_alloc | apply pw_below_drewN | apply below_drew1) | exact HB.out)) hb); have n4_ := Aside0.mk (hbox); have n5_ := Aside0.mk ((by rw [hg]; exact (below_size (by repeat (first | (with_reducible first | exact HB.out | apply below_alloc | apply pw_below_drewN | apply below_drew1) | exact HB.out))) : w.heap.size ≤ gb288)); have n6_ := Aside0.mk ((by rw [hg]; exact (below_size (by repeat (first | (with_reducible first | exact HB.out | apply below_alloc | apply pw_below_drewN | apply below_drew1) | exact HB.out))) : w.heap.size ≤ gb288)); clear HO_113; clear HL282_0; clear HR282_0; clear HB; have HO_113 := n0_; have HL282_0 := n1_; have HR282_0 := n2_; have HB := n3_; have BK288 := n4_; have GW288 := n5_; have GE288 := n6_; clear n0_ n1_ n2_ n3_ n4_ n5_ n6_; clear hb hbox hg; have hcz52_0 : w51.cell? ⟨gb288, 0, none⟩ = some (.int .i64 0) := (blk_cell BK288.out 0).trans rfl; have hcz52_1 : w51.cell? ⟨gb288, 1, none⟩ = some (.int .i64 0) := (blk_cell BK288.out 1).trans rfl; have hcz52_2 : w51.cell? ⟨gb288, 2, none⟩ = some (.int .i64 0) := (blk_cell BK288.out 2).trans rfl; have hfz52_0 := blk_frozen BK288.out 0; have hfz52_1 := blk_frozen BK288.out 1; have hfz52_2 := blk_frozen BK288.out 2))
                                  go_ret
                                  exact ⟨by first | rfl | (simp [errW_none, errW_some] <;> rfl) | (simp [*, errW_none, errW_some] <;> rfl), by repeat (first | (with_reducible first | exact HB.out | apply below_alloc | apply pw_below_drewN | apply below_drew1 | refine below_set ?_ GE288.out) | exact HB.out)⟩
                              · rw [if_neg c45] at H
                                have c45b0 : (t287 == 0) = false := beq_eq_false_iff_ne.mpr c45
                                have c45b1 : (t287 != 0) = true := bne_iff_ne.mpr c45
                                obtain rfl := Option.some.inj H
                                have p282 : 0 ≤ (x115_3 : Int) := of_decide_eq_true (by first | (with_reducible assumption) | assumption)
                                have q282 : x115_3 < (x17_27.length : Int) := of_decide_eq_true (by first | (with_reducible assumption) | assumption)
                                obtain ⟨ad282, A282_0, c282_0, e282, hx282_0, hl282_0, hi282_0⟩ := at_L1 (Kd.N_reads' HO_113.out).2.2 x115_3 p282 q282
                                cases e282
                                obtain ⟨ce282, hce282, hMe282, hcc282⟩ := Kd.N_get HO_113.out [] x115_3 p282 (by first | exact q282 | exact of_decide_eq_true (by first | (with_reducible assumption) | assumption) | (have e_ := (Kd.N_reads' HO_113.out).1; omega))
                                obtain ⟨ua282_0, uc282_0, rfl, ul282_0, ge282_0⟩ := Kd.FK_slice_open hMe282
                                have hv282_0 := hcc282 0 _ rfl
                                rw [Nat.add_zero, show ((Kd.slice 3 (Kd.int .i64))).sz = 1 from rfl, Nat.mul_one] at hv282_0
                                replace hv282_0 := Option.some.inj (hv282_0.symm.trans hx282_0)
                                injection hv282_0 with hva_ hvn_ hvc_
                                rw [hva_] at ge282_0
                                rw [hvc_] at ul282_0
                                have HL282_0 := Aside0.mk (show Kd.V (Kd.int .i64) 3 _ w.heap.size _ _ (rd_L1 x17_27 x115_3) from Kd.V_mk ul282_0 ge282_0)
                                clear hva_ hvn_ hvc_ ge282_0 ul282_0
                                clear hcc282 hce282
                                have HR282_0 := Aside0.mk hi282_0
                                have HC282_0 := Aside0.mk hl282_0
                                clear hi282_0 hl282_0
                                replace p282 := eq_true p282
                                replace q282 := eq_true q282
                                go_wp2_with (first | ((with_reducible refine gate_callee (f := 27) rfl ?_); refine goesL_ (some 122) rfl rfl Try.func27 (by kernel_rfl) rfl #[.int .i64 (wrap64 (1 + (wrap64 (Int.tmod a0 30)))), .slice A282_0 (rd_L1 x17_27 x115_3).length c282_0] rfl (by (try simp only [List.map_toArray, List.map_cons, List.map_nil]); first | done | rfl | (simp only [List.length_drop, List.length_take]; rfl)) ?_; (with_reducible refine (evenness_IsEven.calls k3 (wrap64 (1 + (wrap64 (Int.tmod a0 30)))) _ _ (rd_L1 x17_27 x115_3) t283 t284 t285 t286 t287 _ ?side1 ?side2 A44.out).mono ?_); (case side1 => repeat (first | exact (by repeat (first | (with_reducible exact HR282_0.out) | (with_reducible refine Kd.C_alloc ?_ _) | (with_reducible refine Kd.C_drewN ?_ _) | (with_reducible refine Kd.C_drew ?_) | exact HR282_0.out)) | (with_reducible refine Kd.C_alloc ?_ _) | (with_reducible refine Kd.C_drewN ?_ _) | (with_reducible refine Kd.C_drew ?_))); (case side2 => exact HC282_0.out); rintro e w53 ⟨rfl, hb⟩; refine ⟨_, rfl, ?_⟩; have n0_ := Aside0.mk (Kd.N_below (by (with_reducible repeat (first | apply Kd.N_alloc | apply Kd.N_drewN | apply Kd.N_drew)); exact HO_113.out) hb); have n1_ := Aside0.mk (Kd.V_below (by (with_reducible repeat (first | apply Kd.V_alloc | apply Kd.V_drewN | apply Kd.V_drew)); exact HL282_0.out) hb); have n2_ := Aside0.mk (Kd.C_below (by repeat (first | (with_reducible exact HR282_0.out) | (with_reducible refine Kd.C_alloc ?_ _) | (with_reducible refine Kd.C_drewN ?_ _) | (with_reducible refine Kd.C_drew ?_) | exact HR282_0.out)) hb); have n3_ := Aside0.mk (below_step (by repeat (first | (with_reducible first | exact HB.out | apply below_alloc | apply pw_below_drewN | apply below_drew1) | exact HB.out)) hb); clear HO_113; clear HL282_0; clear HR282_0; clear HB; have HO_113 := n0_; have HL282_0 := n1_; have HR282_0 := n2_; have HB := n3_; clear n0_ n1_ n2_ n3_; (try clear hb); (try clear hb2); (try clear hk); (try clear hi)) | ((with_reducible refine gate_dst (N := 23) rfl ?_); (try (refine gate_guard (by rfl) ?_; dsimp only)); refine box_event ?hg (N := 23) ?hd (cs := #[.int .i64 0, .int .i64 0, .int .i64 0]) (t := 46) ?hr ?_; (case hd => rfl); (case hg => rfl); (case hr => first | (go_simp; done) | (go_simp; rfl)); intro gb288 hg w54 hbox hb; have n0_ := Aside0.mk (Kd.N_below (Kd.N_elderB (by (with_reducible repeat (first | apply Kd.N_alloc | apply Kd.N_drewN | apply Kd.N_drew)); exact HO_113.out) gb288 (Nat.le_of_eq hg.symm)) hb); have n1_ := Aside0.mk (Kd.V_below (Kd.V_elderB (by (with_reducible repeat (first | apply Kd.V_alloc | apply Kd.V_drewN | apply Kd.V_drew)); exact HL282_0.out) gb288 (Nat.le_of_eq hg.symm)) hb); have n2_ := Aside0.mk (Kd.C_below (by repeat (first | (with_reducible exact HR282_0.out) | (with_reducible refine Kd.C_alloc ?_ _) | (with_reducible refine Kd.C_drewN ?_ _) | (with_reducible refine Kd.C_drew ?_) | exact HR282_0.out)) hb); have n3_ := Aside0.mk (below_step (by repeat (first | (with_reducible first | exact HB.out | apply below_alloc | apply pw_below_drewN | apply below_drew1) | exact HB.out)) hb); have n4_ := Aside0.mk (hbox); have n5_ := Aside0.mk ((by rw [hg]; exact (below_size (by repeat (first | (with_reducible first | exact HB.out | apply below_alloc | apply pw_below_drewN | apply below_drew1) | exact HB.out))) : w.heap.size ≤ gb288)); have n6_ := Aside0.mk ((by rw [hg]; exact (below_size (by repeat (first | (with_reducible first | exact HB.out | apply below_alloc | apply pw_below_drewN | apply below_drew1) | exact HB.out))) : w.heap.size ≤ gb288)); clear HO_113; clear HL282_0; clear HR282_0; clear HB; have HO_113 := n0_; have HL282_0 := n1_; have HR282_0 := n2_; have HB := n3_; have BK288 := n4_; have GW288 := n5_; have GE288 := n6_; clear n0_ n1_ n2_ n3_ n4_ n5_ n6_; clear hb hbox hg; have hcz55_0 : w54.cell? ⟨gb288, 0, none⟩ = some (.int .i64 0) := (blk_cell BK288.out 0).trans rfl; have hcz55_1 : w54.cell? ⟨gb288, 1, none⟩ = some (.int .i64 0) := (blk_cell BK288.out 1).trans rfl; have hcz55_2 : w54.cell? ⟨gb288, 2, none⟩ = some (.int .i64 0) := (blk_cell BK288.out 2).trans rfl; have hfz55_0 := blk_frozen BK288.out 0; have hfz55_1 := blk_frozen BK288.out 1; have hfz55_2 := blk_frozen BK288.out 2))
                                go_ret
                                exact ⟨by first | rfl | (simp [errW_none, errW_some] <;> rfl) | (simp [*, errW_none, errW_some] <;> rfl), by repeat (first | (with_reducible first | exact HB.out | apply below_alloc | apply pw_below_drewN | apply below_drew1 | refine below_set ?_ GE288.out) | exact HB.out)⟩
                            · rw [if_neg c43] at H
                              exact absurd H (by simp)
                          · rw [if_neg c42] at H
                            exact absurd H (by simp)
                        · rw [if_neg c41] at H
                          have c41b0 : decide (x115_3 < (x17_27.length : Int)) = false := decide_eq_false c41
                          clear c41
                          obtain rfl := Option.some.inj H
                          go_wp2
                          go_ret
                          exact ⟨by first | rfl | (simp [errW_none, errW_some] <;> rfl) | (simp [*, errW_none, errW_some] <;> rfl), by repeat (first | (with_reducible first | exact HB.out | apply below_alloc | apply pw_below_drewN | apply below_drew1) | exact HB.out)⟩
        · rw [if_neg c9] at H
          have c9b0 : (t257 == 0) = false := beq_eq_false_iff_ne.mpr c9
          have c9b1 : (t257 != 0) = true := bne_iff_ne.mpr c9
          obtain rfl := Option.some.inj H
          go_enter Try.func7, Try.ntmps7
          go_wp2_with (first | ((with_reducible refine gate_callee (f := 12) rfl ?_); refine goesL_ (some 25) rfl rfl Try.func12 (by kernel_rfl) rfl #[] rfl (by (try simp only [List.map_toArray, List.map_cons, List.map_nil]); first | done | rfl | (simp only [List.length_drop, List.length_take]; rfl)) ?_; (with_reducible refine (schismalaw35_known.calls k  true _ A4.out).mono ?_); rintro e w56 ⟨rfl, hb⟩; refine ⟨_, rfl, ?_⟩; have n0_ := Aside0.mk (below_step (by repeat (first | (with_reducible first | exact HB.out | apply below_alloc | apply pw_below_drewN | apply below_drew1) | exact HB.out)) hb); clear HB; have HB := n0_; clear n0_; (try clear hb); (try clear hb2); (try clear hk); (try clear hi)) | ((with_reducible refine gate_callee (f := 13) rfl ?_); refine goesL_ (some 43) rfl rfl Try.func13 (by kernel_rfl) rfl #[.int .i64 (wrap64 (1 + (wrap64 (Int.tmod a0 30)))), .int .i64 (wrap64 (1 + (Int.tmod (wrap64 (a1)) (wrap64 (1 + (wrap64 (Int.tmod a0 30))))))), .int .i64 (Int.tmod (wrap64 (a2)) (wrap64 (1 + (Int.tmod (wrap64 (a1)) (wrap64 (1 + (wrap64 (Int.tmod a0 30))))))))] rfl (by (try simp only [List.map_toArray, List.map_cons, List.map_nil]); first | done | rfl | (simp only [List.length_drop, List.length_take]; rfl)) ?_; (with_reducible refine (evenness_Make.calls k (wrap64 (1 + (wrap64 (Int.tmod a0 30)))) (wrap64 (1 + (Int.tmod (wrap64 (a1)) (wrap64 (1 + (wrap64 (Int.tmod a0 30))))))) (Int.tmod (wrap64 (a2)) (wrap64 (1 + (Int.tmod (wrap64 (a1)) (wrap64 (1 + (wrap64 (Int.tmod a0 30)))))))) t256 t257 _ A8.out).mono ?_); rintro e w57 ⟨v258, rfl, ho0, hb⟩; refine ⟨_, rfl, ?_⟩; have n0_ := Aside0.mk (Kd.R_lower ho0 (below_size (by repeat (first | (with_reducible first | exact HB.out | apply below_alloc | apply pw_below_drewN | apply below_drew1) | exact HB.out)))); have n1_ := Aside0.mk (below_step (by repeat (first | (with_reducible first | exact HB.out | apply below_alloc | apply pw_below_drewN | apply below_drew1) | exact HB.out)) hb); clear HB; have HO259 := n0_; have HB := n1_; clear n0_ n1_; (try clear hb); (try clear hb2); (try clear hk); (try clear hi); (try clear ho0)))
          go_ret
          exact ⟨by first | rfl | (simp [errW_none, errW_some] <;> rfl) | (simp [*, errW_none, errW_some] <;> rfl), by repeat (first | (with_reducible first | exact HB.out | apply below_alloc | apply pw_below_drewN | apply below_drew1) | exact HB.out)⟩
  · replace c5 := Bool.eq_false_iff.mpr c5
    subst c5
    have H1 : (some false) = some r := by rw [if_neg (show ¬ (false = true) by decide)] at H; exact H
    clear H
    have H := H1
    clear H1
    obtain rfl := Option.some.inj H
    go_enter Try.func7, Try.ntmps7
    go_wp2_with (first | ((with_reducible refine gate_callee (f := 12) rfl ?_); refine goesL_ (some 25) rfl rfl Try.func12 (by kernel_rfl) rfl #[] rfl (by (try simp only [List.map_toArray, List.map_cons, List.map_nil]); first | done | rfl | (simp only [List.length_drop, List.length_take]; rfl)) ?_; (with_reducible refine (schismalaw35_known.calls k  false _ A4.out).mono ?_); rintro e w58 ⟨rfl, hb⟩; refine ⟨_, rfl, ?_⟩; have n0_ := Aside0.mk (below_step (by repeat (first | (with_reducible first | exact HB.out | apply below_alloc | apply pw_below_drewN | apply below_drew1) | exact HB.out)) hb); clear HB; have HB := n0_; clear n0_; (try clear hb); (try clear hb2); (try clear hk); (try clear hi)))
    go_ret
    exact ⟨by first | rfl | (simp [errW_none, errW_some] <;> rfl) | (simp [*, errW_none, errW_some] <;> rfl), by repeat (first | (with_reducible first | exact HB.out | apply below_alloc | apply pw_below_drewN | apply below_drew1) | exact HB.out)⟩

/-- THE ONE PURE STATEMENT of schismalaw35_EvennessKeeps: yours. -/
def schismalaw35_EvennessKeeps.Pure : Prop := ∀ (a0 : Int) (a1 : Int) (a2 : Int), (Lit.int .u8 a0).wf = true → (Lit.int .u8 a1).wf = true → (Lit.int .u8 a2).wf = true → ∃ k, schismalaw35_EvennessKeeps.f k a0 a1 a2 = some true
theorem schismalaw35_EvennessKeeps.walk (P : schismalaw35_EvennessKeeps.Pure) (a0 : Int) (a1 : Int) (a2 : Int) (w : World) (w0 : (Lit.int .u8 a0).wf = true) (w1 : (Lit.int .u8 a1).wf = true) (w2 : (Lit.int .u8 a2).wf = true) :
    Calls Try.prog 7 #[.int .u8 a0, .int .u8 a1, .int .u8 a2] w fun e w' => e = .returned (.bool true) ∧ Below w.heap.size w w' := by
  obtain ⟨k, h⟩ := P a0 a1 a2 w0 w1 w2
  refine (schismalaw35_EvennessKeeps.calls k a0 a1 a2 true w h).mono ?_
  rintro e w' ⟨rfl, hd⟩
  exact ⟨rfl, hd⟩

end Go.Proofs.Ytdbleoijefihhaa.PEv
