-- Written for this claim by a program of this session (myprint.py).
import Derived.Test.YtdbleoijefihhaaPEvx0
import Derived.Test.YtdbleoijefihhaaPEvx3
import Derived.Test.YtdbleoijefihhaaPEvx7
import Derived.Test.YtdbleoijefihhaaPEvx15
namespace Go.Proofs.Ytdbleoijefihhaa.PEv
open Go.RowKit Go.Proofs.YtdbleoijefihhaaW.PrintWords Go.Proofs.YtdbleoijefihhaaW.PrintLast Go.Proofs.YtdbleoijefihhaaW.PrintMore
attribute [local go_sem] max2_int min2_int max_two min_two max_three min_three max_four min_four   -- for this text's walks alone
set_option linter.unusedVariables false
set_option linter.unusedSimpArgs false

/-! ### schismalaw35_EvennessSpectra: function 8 -/
mutual
def schismalaw35_EvennessSpectra.j0 : Nat → Int → List Int → List Int → Bool → Option (Bool)
  | 0, _, _, _, _ => none
  | k + 1, x5, x8, x10, x55 => if x55 = true then (some false) else (schismalaw35_EvennessSpectra.l0 k x5 x8 x10 (x8.length : Int) 0)
def schismalaw35_EvennessSpectra.l0 : Nat → Int → List Int → List Int → Int → Int → Option (Bool)
  | 0, _, _, _, _, _ => none
  | k + 1, x5, x8, x10, x57, x58 => if x58 < x57 then (if 0 ≤ x58 then (if x58 < (x8.length : Int) then (if 0 ≤ (wrap64 ((wrap64 ((x10.length : Int) - 1)) - x58)) then (if (wrap64 ((wrap64 ((x10.length : Int) - 1)) - x58)) < (x10.length : Int) then (if (wrap64 ((rd x8 x58) + (rd x10 (wrap64 ((wrap64 ((x10.length : Int) - 1)) - x58))))) = x5 then (schismalaw35_EvennessSpectra.l0 k x5 x8 x10 x57 (wrap64 (x58 + 1))) else (some false)) else (none)) else (none)) else (none)) else (none)) else (some true)
end
def schismalaw35_EvennessSpectra.f (k : Nat) (a0_0 : Int) (a0_1 : Int) (a1 : Int) : Option (Bool) := (schismalaw35_known.f k).bind fun t298 => (if t298 = true then ((schismalaw35_Make.f k a0_0 a0_1).bind fun bt299 => (if (wrap64 ((bt299.2.length : Int) + 1)) = 0 then (none) else ((evenness_Spectrum.f k bt299.1 bt299.2 (Int.tmod (wrap64 (a1)) (wrap64 ((bt299.2.length : Int) + 1)))).bind fun bt303 => ((evenness_Spectrum.f k bt299.1 bt299.2 (wrap64 ((bt299.2.length : Int) - (Int.tmod (wrap64 (a1)) (wrap64 ((bt299.2.length : Int) + 1)))))).bind fun bt307 => (if bt303.2 = 0 then (if bt307.2 = 0 then (schismalaw35_EvennessSpectra.j0 k bt299.1 bt303.1 bt307.1 ((bt303.1.length : Int) != (bt307.1.length : Int))) else (schismalaw35_EvennessSpectra.j0 k bt299.1 bt303.1 bt307.1 true)) else (schismalaw35_EvennessSpectra.j0 k bt299.1 bt303.1 bt307.1 true)))))) else (some false))
theorem schismalaw35_EvennessSpectra.mono_l : ∀ k, (∀ y0 y1 y2 y3, LeO (schismalaw35_EvennessSpectra.j0 k y0 y1 y2 y3) (schismalaw35_EvennessSpectra.j0 (k + 1) y0 y1 y2 y3)) ∧ (∀ y0 y1 y2 y3 y4, LeO (schismalaw35_EvennessSpectra.l0 k y0 y1 y2 y3 y4) (schismalaw35_EvennessSpectra.l0 (k + 1) y0 y1 y2 y3 y4))
  | 0 => ⟨fun _ _ _ _ r h => by simp [schismalaw35_EvennessSpectra.j0] at h, fun _ _ _ _ _ r h => by simp [schismalaw35_EvennessSpectra.l0] at h⟩
  | k + 1 => by
    obtain ⟨ih0, ih1⟩ := schismalaw35_EvennessSpectra.mono_l k
    refine ⟨?_, ?_⟩
    · intro y0 y1 y2 y3
      unfold schismalaw35_EvennessSpectra.j0
      repeat' first
      | (with_reducible exact ih0 _ _ _ _)
      | (with_reducible exact ih1 _ _ _ _ _)
      | (with_reducible exact evenness_Spectrum.mono _ _ _ _)
      | (with_reducible exact schismalaw35_Make.mono _ _ _)
      | (with_reducible exact schismalaw35_known.mono _)
      | (with_reducible exact LeO.refl _)
      | (with_reducible exact LeO.none _)
      | (with_reducible refine LeO.ite ?_ ?_)
      | (with_reducible refine LeO.bind ?_ (fun _ => ?_))
      | exact ih0 _ _ _ _
      | exact ih1 _ _ _ _ _
      | exact evenness_Spectrum.mono _ _ _ _
      | exact schismalaw35_Make.mono _ _ _
      | exact schismalaw35_known.mono _
      | exact LeO.none _
      | refine LeO.ite ?_ ?_
      | refine LeO.bind ?_ (fun _ => ?_)
    · intro y0 y1 y2 y3 y4
      unfold schismalaw35_EvennessSpectra.l0
      repeat' first
      | (with_reducible exact ih0 _ _ _ _)
      | (with_reducible exact ih1 _ _ _ _ _)
      | (with_reducible exact evenness_Spectrum.mono _ _ _ _)
      | (with_reducible exact schismalaw35_Make.mono _ _ _)
      | (with_reducible exact schismalaw35_known.mono _)
      | (with_reducible exact LeO.refl _)
      | (with_reducible exact LeO.none _)
      | (with_reducible refine LeO.ite ?_ ?_)
      | (with_reducible refine LeO.bind ?_ (fun _ => ?_))
      | exact ih0 _ _ _ _
      | exact ih1 _ _ _ _ _
      | exact evenness_Spectrum.mono _ _ _ _
      | exact schismalaw35_Make.mono _ _ _
      | exact schismalaw35_known.mono _
      | exact LeO.none _
      | refine LeO.ite ?_ ?_
      | refine LeO.bind ?_ (fun _ => ?_)
theorem schismalaw35_EvennessSpectra.mono : ∀ a0 a1 a2 k, LeO (schismalaw35_EvennessSpectra.f k a0 a1 a2) (schismalaw35_EvennessSpectra.f (k + 1) a0 a1 a2) := by
  intro a0 a1 a2 k
  obtain ⟨ih0, ih1⟩ := schismalaw35_EvennessSpectra.mono_l k
  unfold schismalaw35_EvennessSpectra.f
  repeat' first
      | (with_reducible exact ih0 _ _ _ _)
      | (with_reducible exact ih1 _ _ _ _ _)
      | (with_reducible exact evenness_Spectrum.mono _ _ _ _)
      | (with_reducible exact schismalaw35_Make.mono _ _ _)
      | (with_reducible exact schismalaw35_known.mono _)
      | (with_reducible exact LeO.refl _)
      | (with_reducible exact LeO.none _)
      | (with_reducible refine LeO.ite ?_ ?_)
      | (with_reducible refine LeO.bind ?_ (fun _ => ?_))
      | exact ih0 _ _ _ _
      | exact ih1 _ _ _ _ _
      | exact evenness_Spectrum.mono _ _ _ _
      | exact schismalaw35_Make.mono _ _ _
      | exact schismalaw35_known.mono _
      | exact LeO.none _
      | refine LeO.ite ?_ ?_
      | refine LeO.bind ?_ (fun _ => ?_)
set_option maxHeartbeats 8000000 in
set_option maxRecDepth 100000 in
theorem schismalaw35_EvennessSpectra.calls (k : Nat) (a0_0 : Int) (a0_1 : Int) (a1 : Int) (r : Bool) (w : World) (h : schismalaw35_EvennessSpectra.f k a0_0 a0_1 a1 = some r) :
    Calls Try.prog 8 #[.agg #[.int .u8 a0_0, .int .u16 a0_1], .int .u8 a1] w fun e w' => e = .returned (.bool r) ∧ Below w.heap.size w w' := by
  have hu36 := Try.underlying36
  have HB := Aside0.mk (Below.refl w.heap.size w)
  have H : ((schismalaw35_known.f k).bind fun t298 => (if t298 = true then ((schismalaw35_Make.f k a0_0 a0_1).bind fun bt299 => (if (wrap64 ((bt299.2.length : Int) + 1)) = 0 then (none) else ((evenness_Spectrum.f k bt299.1 bt299.2 (Int.tmod (wrap64 (a1)) (wrap64 ((bt299.2.length : Int) + 1)))).bind fun bt303 => ((evenness_Spectrum.f k bt299.1 bt299.2 (wrap64 ((bt299.2.length : Int) - (Int.tmod (wrap64 (a1)) (wrap64 ((bt299.2.length : Int) + 1)))))).bind fun bt307 => (if bt303.2 = 0 then (if bt307.2 = 0 then (schismalaw35_EvennessSpectra.j0 k bt299.1 bt303.1 bt307.1 ((bt303.1.length : Int) != (bt307.1.length : Int))) else (schismalaw35_EvennessSpectra.j0 k bt299.1 bt303.1 bt307.1 true)) else (schismalaw35_EvennessSpectra.j0 k bt299.1 bt303.1 bt307.1 true)))))) else (some false))) = some r := h
  clear h
  replace H := Option.bind_eq_some_iff.mp H
  obtain ⟨t298, A30, H⟩ := H
  replace H : (if t298 = true then ((schismalaw35_Make.f k a0_0 a0_1).bind fun bt299 => (if (wrap64 ((bt299.2.length : Int) + 1)) = 0 then (none) else ((evenness_Spectrum.f k bt299.1 bt299.2 (Int.tmod (wrap64 (a1)) (wrap64 ((bt299.2.length : Int) + 1)))).bind fun bt303 => ((evenness_Spectrum.f k bt299.1 bt299.2 (wrap64 ((bt299.2.length : Int) - (Int.tmod (wrap64 (a1)) (wrap64 ((bt299.2.length : Int) + 1)))))).bind fun bt307 => (if bt303.2 = 0 then (if bt307.2 = 0 then (schismalaw35_EvennessSpectra.j0 k bt299.1 bt303.1 bt307.1 ((bt303.1.length : Int) != (bt307.1.length : Int))) else (schismalaw35_EvennessSpectra.j0 k bt299.1 bt303.1 bt307.1 true)) else (schismalaw35_EvennessSpectra.j0 k bt299.1 bt303.1 bt307.1 true)))))) else (some false)) = some r := H
  have A3 := Aside0.mk A30
  clear A30
  by_cases c4 : t298 = true
  · subst c4
    have H1 : ((schismalaw35_Make.f k a0_0 a0_1).bind fun bt299 => (if (wrap64 ((bt299.2.length : Int) + 1)) = 0 then (none) else ((evenness_Spectrum.f k bt299.1 bt299.2 (Int.tmod (wrap64 (a1)) (wrap64 ((bt299.2.length : Int) + 1)))).bind fun bt303 => ((evenness_Spectrum.f k bt299.1 bt299.2 (wrap64 ((bt299.2.length : Int) - (Int.tmod (wrap64 (a1)) (wrap64 ((bt299.2.length : Int) + 1)))))).bind fun bt307 => (if bt303.2 = 0 then (if bt307.2 = 0 then (schismalaw35_EvennessSpectra.j0 k bt299.1 bt303.1 bt307.1 ((bt303.1.length : Int) != (bt307.1.length : Int))) else (schismalaw35_EvennessSpectra.j0 k bt299.1 bt303.1 bt307.1 true)) else (schismalaw35_EvennessSpectra.j0 k bt299.1 bt303.1 bt307.1 true)))))) = some r := by rw [if_pos rfl] at H; exact H
    clear H
    have H := H1
    clear H1
    replace H := Option.bind_eq_some_iff.mp H
    obtain ⟨⟨t299, t300⟩, A50, H⟩ := H
    replace H : (if (wrap64 ((t300.length : Int) + 1)) = 0 then (none) else ((evenness_Spectrum.f k t299 t300 (Int.tmod (wrap64 (a1)) (wrap64 ((t300.length : Int) + 1)))).bind fun bt303 => ((evenness_Spectrum.f k t299 t300 (wrap64 ((t300.length : Int) - (Int.tmod (wrap64 (a1)) (wrap64 ((t300.length : Int) + 1)))))).bind fun bt307 => (if bt303.2 = 0 then (if bt307.2 = 0 then (schismalaw35_EvennessSpectra.j0 k t299 bt303.1 bt307.1 ((bt303.1.length : Int) != (bt307.1.length : Int))) else (schismalaw35_EvennessSpectra.j0 k t299 bt303.1 bt307.1 true)) else (schismalaw35_EvennessSpectra.j0 k t299 bt303.1 bt307.1 true))))) = some r := H
    have A5 := Aside0.mk A50
    clear A50
    by_cases c6 : (wrap64 ((t300.length : Int) + 1)) = 0
    · rw [if_pos c6] at H
      exact absurd H (by simp)
    · rw [if_neg c6] at H
      have c6b0 : ((wrap64 ((t300.length : Int) + 1)) == 0) = false := beq_eq_false_iff_ne.mpr c6
      have c6b1 : ((wrap64 ((t300.length : Int) + 1)) != 0) = true := bne_iff_ne.mpr c6
      replace H := Option.bind_eq_some_iff.mp H
      obtain ⟨⟨t303, t304⟩, A70, H⟩ := H
      replace H : ((evenness_Spectrum.f k t299 t300 (wrap64 ((t300.length : Int) - (Int.tmod (wrap64 (a1)) (wrap64 ((t300.length : Int) + 1)))))).bind fun bt307 => (if t304 = 0 then (if bt307.2 = 0 then (schismalaw35_EvennessSpectra.j0 k t299 t303 bt307.1 ((t303.length : Int) != (bt307.1.length : Int))) else (schismalaw35_EvennessSpectra.j0 k t299 t303 bt307.1 true)) else (schismalaw35_EvennessSpectra.j0 k t299 t303 bt307.1 true))) = some r := H
      have A7 := Aside0.mk A70
      clear A70
      replace H := Option.bind_eq_some_iff.mp H
      obtain ⟨⟨t307, t308⟩, A80, H⟩ := H
      replace H : (if t304 = 0 then (if t308 = 0 then (schismalaw35_EvennessSpectra.j0 k t299 t303 t307 ((t303.length : Int) != (t307.length : Int))) else (schismalaw35_EvennessSpectra.j0 k t299 t303 t307 true)) else (schismalaw35_EvennessSpectra.j0 k t299 t303 t307 true)) = some r := H
      have A8 := Aside0.mk A80
      clear A80
      have HC9 := Aside0.mk H
      clear H
      go_enter Try.func8, Try.ntmps8
      go_upto_region 7 with (first | ((with_reducible refine gate_dst (N := 2) rfl ?_); (try (refine gate_guard (by rfl) ?_; dsimp only)); refine box_event ?hg (N := 2) ?hd (cs := #[.int .u8 a0_0, .int .u16 a0_1]) (t := 36) ?hr ?_; (case hd => rfl); (case hg => rfl); (case hr => first | (go_simp; done) | (go_simp; rfl)); intro gb297 hg w10 hbox hb; have n0_ := Aside0.mk (below_step (by repeat (first | (with_reducible first | exact HB.out | apply below_alloc | apply pw_below_drewN | apply below_drew1) | exact HB.out)) hb); have n1_ := Aside0.mk (hbox); have n2_ := Aside0.mk ((by rw [hg]; exact (below_size (by repeat (first | (with_reducible first | exact HB.out | apply below_alloc | apply pw_below_drewN | apply below_drew1) | exact HB.out))) : w.heap.size ≤ gb297)); have n3_ := Aside0.mk ((by rw [hg]; exact (below_size (by repeat (first | (with_reducible first | exact HB.out | apply below_alloc | apply pw_below_drewN | apply below_drew1) | exact HB.out))) : w.heap.size ≤ gb297)); clear HB; have HB := n0_; have BK297 := n1_; have GW297 := n2_; have GE297 := n3_; clear n0_ n1_ n2_ n3_; clear hb hbox hg) | (go_at_call 12; (with_reducible refine (schismalaw35_known.calls k  true _ A3.out).mono ?_); rintro e w11 ⟨rfl, hb⟩; have n0_ := Aside0.mk (blk_below (g := gb297) (o := .cells #[.int .u8 a0_0, .int .u16 a0_1] 36 (0, 0)) (by (with_reducible repeat (first | refine blk_drewN ?_ _ | refine blk_drew ?_ | refine blk_alloc ?_ _)); exact BK297.out) hb); have n1_ := Aside0.mk (below_step (by repeat (first | (with_reducible first | exact HB.out | apply below_alloc | apply pw_below_drewN | apply below_drew1 | refine below_set ?_ GE297.out) | exact HB.out)) hb); clear BK297; clear HB; have BK297 := n0_; have HB := n1_; clear n0_ n1_; (try clear hb); (try clear hb2); (try clear hk); (try clear hi); have hcz12_0 : w11.cell? ⟨gb297, 0, none⟩ = some (.int .u8 a0_0) := (blk_cell BK297.out 0).trans rfl; have hcz12_1 : w11.cell? ⟨gb297, 1, none⟩ = some (.int .u16 a0_1) := (blk_cell BK297.out 1).trans rfl; have hfz12_0 := blk_frozen BK297.out 0; have hfz12_1 := blk_frozen BK297.out 1) | (go_at_call 17; (with_reducible refine (schismalaw35_Make.calls k a0_0 a0_1 t299 t300 _ A5.out).mono ?_); rintro e w13 ⟨v301, rfl, ho0, hb⟩; have n0_ := Aside0.mk (Kd.R_lower ho0 (below_size (by repeat (first | (with_reducible first | exact HB.out | apply below_alloc | apply pw_below_drewN | apply below_drew1 | refine below_set ?_ GE297.out) | exact HB.out)))); have n1_ := Aside0.mk (blk_below (g := gb297) (o := .cells #[.int .u8 a0_0, .int .u16 a0_1] 36 (0, 0)) (by (with_reducible repeat (first | refine blk_drewN ?_ _ | refine blk_drew ?_ | refine blk_alloc ?_ _)); exact BK297.out) hb); have n2_ := Aside0.mk (below_step (by repeat (first | (with_reducible first | exact HB.out | apply below_alloc | apply pw_below_drewN | apply below_drew1 | refine below_set ?_ GE297.out) | exact HB.out)) hb); clear BK297; clear HB; have HO302 := n0_; have BK297 := n1_; have HB := n2_; clear n0_ n1_ n2_; (try clear hb); (try clear hb2); (try clear hk); (try clear hi); (try clear ho0); obtain ⟨Ao14, co14, eo14⟩ := Kd.R_slice HO302.out; subst eo14) | (go_at_call 28; (with_reducible refine (evenness_Spectrum.calls k t299 _ _ t300 (Int.tmod (wrap64 (a1)) (wrap64 ((t300.length : Int) + 1))) t303 t304 _ ?side1 ?side2 A7.out).mono ?_); (case side1 => repeat (first | exact (Kd.R_reads' HO302.out).2.2 | (with_reducible refine Kd.C_alloc ?_ _) | (with_reducible refine Kd.C_drewN ?_ _) | (with_reducible refine Kd.C_drew ?_))); (case side2 => exact (Kd.R_reads' HO302.out).2.1); rintro e w15 ⟨v305, rfl, ho0, hb⟩; have n0_ := Aside0.mk (Kd.R_elder' (by (with_reducible repeat (first | apply Kd.R_alloc | apply Kd.R_drewN | apply Kd.R_drew)); exact HO302.out) (Kd.R_base ho0) hb); have n1_ := Aside0.mk (Kd.R_lower (Kd.R_new' ho0 (Kd.R_lt (by (with_reducible repeat (first | apply Kd.R_alloc | apply Kd.R_drewN | apply Kd.R_drew)); exact HO302.out))) (below_size (by repeat (first | (with_reducible first | exact HB.out | apply below_alloc | apply pw_below_drewN | apply below_drew1 | refine below_set ?_ GE297.out) | exact HB.out)))); have n2_ := Aside0.mk (blk_below (g := gb297) (o := .cells #[.int .u8 a0_0, .int .u16 a0_1] 36 (0, 0)) (by (with_reducible repeat (first | refine blk_drewN ?_ _ | refine blk_drew ?_ | refine blk_alloc ?_ _)); exact BK297.out) hb); have n3_ := Aside0.mk (below_step (by repeat (first | (with_reducible first | exact HB.out | apply below_alloc | apply pw_below_drewN | apply below_drew1 | refine below_set ?_ GE297.out) | exact HB.out)) hb); clear HO302; clear BK297; clear HB; have HO302 := n0_; have HO306 := n1_; have BK297 := n2_; have HB := n3_; clear n0_ n1_ n2_ n3_; (try clear hb); (try clear hb2); (try clear hk); (try clear hi); (try clear ho0)) | (go_at_call 28; (with_reducible refine (evenness_Spectrum.calls k t299 _ _ t300 (wrap64 ((t300.length : Int) - (Int.tmod (wrap64 (a1)) (wrap64 ((t300.length : Int) + 1))))) t307 t308 _ ?side1 ?side2 A8.out).mono ?_); (case side1 => repeat (first | exact (Kd.R_reads' HO302.out).2.2 | (with_reducible refine Kd.C_alloc ?_ _) | (with_reducible refine Kd.C_drewN ?_ _) | (with_reducible refine Kd.C_drew ?_))); (case side2 => exact (Kd.R_reads' HO302.out).2.1); rintro e w16 ⟨v309, rfl, ho0, hb⟩; have n0_ := Aside0.mk (Kd.R_elder' (by (with_reducible repeat (first | apply Kd.R_alloc | apply Kd.R_drewN | apply Kd.R_drew)); exact HO302.out) (Kd.R_base ho0) hb); have n1_ := Aside0.mk (Kd.R_elder' (by (with_reducible repeat (first | apply Kd.R_alloc | apply Kd.R_drewN | apply Kd.R_drew)); exact HO306.out) (Kd.R_base ho0) hb); have n2_ := Aside0.mk (Kd.R_lower (Kd.R_new' (Kd.R_new' ho0 (Kd.R_lt (by (with_reducible repeat (first | apply Kd.R_alloc | apply Kd.R_drewN | apply Kd.R_drew)); exact HO302.out))) (Kd.R_lt (by (with_reducible repeat (first | apply Kd.R_alloc | apply Kd.R_drewN | apply Kd.R_drew)); exact HO306.out))) (below_size (by repeat (first | (with_reducible first | exact HB.out | apply below_alloc | apply pw_below_drewN | apply below_drew1 | refine below_set ?_ GE297.out) | exact HB.out)))); have n3_ := Aside0.mk (blk_below (g := gb297) (o := .cells #[.int .u8 a0_0, .int .u16 a0_1] 36 (0, 0)) (by (with_reducible repeat (first | refine blk_drewN ?_ _ | refine blk_drew ?_ | refine blk_alloc ?_ _)); exact BK297.out) hb); have n4_ := Aside0.mk (below_step (by repeat (first | (with_reducible first | exact HB.out | apply below_alloc | apply pw_below_drewN | apply below_drew1 | refine below_set ?_ GE297.out) | exact HB.out)) hb); clear HO302; clear HO306; clear BK297; clear HB; have HO302 := n0_; have HO306 := n1_; have HO310 := n2_; have BK297 := n3_; have HB := n4_; clear n0_ n1_ n2_ n3_ n4_; (try clear hb); (try clear hb2); (try clear hk); (try clear hi); (try clear ho0)))
      repeat (go_quiet (first | ((with_reducible refine gate_dst (N := 2) rfl ?_); (try (refine gate_guard (by rfl) ?_; dsimp only)); refine box_event ?hg (N := 2) ?hd (cs := #[.int .u8 a0_0, .int .u16 a0_1]) (t := 36) ?hr ?_; (case hd => rfl); (case hg => rfl); (case hr => first | (go_simp; done) | (go_simp; rfl)); intro gb297 hg w10 hbox hb; have n0_ := Aside0.mk (below_step (by repeat (first | (with_reducible first | exact HB.out | apply below_alloc | apply pw_below_drewN | apply below_drew1) | exact HB.out)) hb); have n1_ := Aside0.mk (hbox); have n2_ := Aside0.mk ((by rw [hg]; exact (below_size (by repeat (first | (with_reducible first | exact HB.out | apply below_alloc | apply pw_below_drewN | apply below_drew1) | exact HB.out))) : w.heap.size ≤ gb297)); have n3_ := Aside0.mk ((by rw [hg]; exact (below_size (by repeat (first | (with_reducible first | exact HB.out | apply below_alloc | apply pw_below_drewN | apply below_drew1) | exact HB.out))) : w.heap.size ≤ gb297)); clear HB; have HB := n0_; have BK297 := n1_; have GW297 := n2_; have GE297 := n3_; clear n0_ n1_ n2_ n3_; clear hb hbox hg) | (go_at_call 12; (with_reducible refine (schismalaw35_known.calls k  true _ A3.out).mono ?_); rintro e w11 ⟨rfl, hb⟩; have n0_ := Aside0.mk (blk_below (g := gb297) (o := .cells #[.int .u8 a0_0, .int .u16 a0_1] 36 (0, 0)) (by (with_reducible repeat (first | refine blk_drewN ?_ _ | refine blk_drew ?_ | refine blk_alloc ?_ _)); exact BK297.out) hb); have n1_ := Aside0.mk (below_step (by repeat (first | (with_reducible first | exact HB.out | apply below_alloc | apply pw_below_drewN | apply below_drew1 | refine below_set ?_ GE297.out) | exact HB.out)) hb); clear BK297; clear HB; have BK297 := n0_; have HB := n1_; clear n0_ n1_; (try clear hb); (try clear hb2); (try clear hk); (try clear hi); have hcz12_0 : w11.cell? ⟨gb297, 0, none⟩ = some (.int .u8 a0_0) := (blk_cell BK297.out 0).trans rfl; have hcz12_1 : w11.cell? ⟨gb297, 1, none⟩ = some (.int .u16 a0_1) := (blk_cell BK297.out 1).trans rfl; have hfz12_0 := blk_frozen BK297.out 0; have hfz12_1 := blk_frozen BK297.out 1) | (go_at_call 17; (with_reducible refine (schismalaw35_Make.calls k a0_0 a0_1 t299 t300 _ A5.out).mono ?_); rintro e w13 ⟨v301, rfl, ho0, hb⟩; have n0_ := Aside0.mk (Kd.R_lower ho0 (below_size (by repeat (first | (with_reducible first | exact HB.out | apply below_alloc | apply pw_below_drewN | apply below_drew1 | refine below_set ?_ GE297.out) | exact HB.out)))); have n1_ := Aside0.mk (blk_below (g := gb297) (o := .cells #[.int .u8 a0_0, .int .u16 a0_1] 36 (0, 0)) (by (with_reducible repeat (first | refine blk_drewN ?_ _ | refine blk_drew ?_ | refine blk_alloc ?_ _)); exact BK297.out) hb); have n2_ := Aside0.mk (below_step (by repeat (first | (with_reducible first | exact HB.out | apply below_alloc | apply pw_below_drewN | apply below_drew1 | refine below_set ?_ GE297.out) | exact HB.out)) hb); clear BK297; clear HB; have HO302 := n0_; have BK297 := n1_; have HB := n2_; clear n0_ n1_ n2_; (try clear hb); (try clear hb2); (try clear hk); (try clear hi); (try clear ho0); obtain ⟨Ao14, co14, eo14⟩ := Kd.R_slice HO302.out; subst eo14) | (go_at_call 28; (with_reducible refine (evenness_Spectrum.calls k t299 _ _ t300 (Int.tmod (wrap64 (a1)) (wrap64 ((t300.length : Int) + 1))) t303 t304 _ ?side1 ?side2 A7.out).mono ?_); (case side1 => repeat (first | exact (Kd.R_reads' HO302.out).2.2 | (with_reducible refine Kd.C_alloc ?_ _) | (with_reducible refine Kd.C_drewN ?_ _) | (with_reducible refine Kd.C_drew ?_))); (case side2 => exact (Kd.R_reads' HO302.out).2.1); rintro e w15 ⟨v305, rfl, ho0, hb⟩; have n0_ := Aside0.mk (Kd.R_elder' (by (with_reducible repeat (first | apply Kd.R_alloc | apply Kd.R_drewN | apply Kd.R_drew)); exact HO302.out) (Kd.R_base ho0) hb); have n1_ := Aside0.mk (Kd.R_lower (Kd.R_new' ho0 (Kd.R_lt (by (with_reducible repeat (first | apply Kd.R_alloc | apply Kd.R_drewN | apply Kd.R_drew)); exact HO302.out))) (below_size (by repeat (first | (with_reducible first | exact HB.out | apply below_alloc | apply pw_below_drewN | apply below_drew1 | refine below_set ?_ GE297.out) | exact HB.out)))); have n2_ := Aside0.mk (blk_below (g := gb297) (o := .cells #[.int .u8 a0_0, .int .u16 a0_1] 36 (0, 0)) (by (with_reducible repeat (first | refine blk_drewN ?_ _ | refine blk_drew ?_ | refine blk_alloc ?_ _)); exact BK297.out) hb); have n3_ := Aside0.mk (below_step (by repeat (first | (with_reducible first | exact HB.out | apply below_alloc | apply pw_below_drewN | apply below_drew1 | refine below_set ?_ GE297.out) | exact HB.out)) hb); clear HO302; clear BK297; clear HB; have HO302 := n0_; have HO306 := n1_; have BK297 := n2_; have HB := n3_; clear n0_ n1_ n2_ n3_; (try clear hb); (try clear hb2); (try clear hk); (try clear hi); (try clear ho0)) | (go_at_call 28; (with_reducible refine (evenness_Spectrum.calls k t299 _ _ t300 (wrap64 ((t300.length : Int) - (Int.tmod (wrap64 (a1)) (wrap64 ((t300.length : Int) + 1))))) t307 t308 _ ?side1 ?side2 A8.out).mono ?_); (case side1 => repeat (first | exact (Kd.R_reads' HO302.out).2.2 | (with_reducible refine Kd.C_alloc ?_ _) | (with_reducible refine Kd.C_drewN ?_ _) | (with_reducible refine Kd.C_drew ?_))); (case side2 => exact (Kd.R_reads' HO302.out).2.1); rintro e w16 ⟨v309, rfl, ho0, hb⟩; have n0_ := Aside0.mk (Kd.R_elder' (by (with_reducible repeat (first | apply Kd.R_alloc | apply Kd.R_drewN | apply Kd.R_drew)); exact HO302.out) (Kd.R_base ho0) hb); have n1_ := Aside0.mk (Kd.R_elder' (by (with_reducible repeat (first | apply Kd.R_alloc | apply Kd.R_drewN | apply Kd.R_drew)); exact HO306.out) (Kd.R_base ho0) hb); have n2_ := Aside0.mk (Kd.R_lower (Kd.R_new' (Kd.R_new' ho0 (Kd.R_lt (by (with_reducible repeat (first | apply Kd.R_alloc | apply Kd.R_drewN | apply Kd.R_drew)); exact HO302.out))) (Kd.R_lt (by (with_reducible repeat (first | apply Kd.R_alloc | apply Kd.R_drewN | apply Kd.R_drew)); exact HO306.out))) (below_size (by repeat (first | (with_reducible first | exact HB.out | apply below_alloc | apply pw_below_drewN | apply below_drew1 | refine below_set ?_ GE297.out) | exact HB.out)))); have n3_ := Aside0.mk (blk_below (g := gb297) (o := .cells #[.int .u8 a0_0, .int .u16 a0_1] 36 (0, 0)) (by (with_reducible repeat (first | refine blk_drewN ?_ _ | refine blk_drew ?_ | refine blk_alloc ?_ _)); exact BK297.out) hb); have n4_ := Aside0.mk (below_step (by repeat (first | (with_reducible first | exact HB.out | apply below_alloc | apply pw_below_drewN | apply below_drew1 | refine below_set ?_ GE297.out) | exact HB.out)) hb); clear HO302; clear HO306; clear BK297; clear HB; have HO302 := n0_; have HO306 := n1_; have HO310 := n2_; have BK297 := n3_; have HB := n4_; clear n0_ n1_ n2_ n3_ n4_; (try clear hb); (try clear hb2); (try clear hk); (try clear hi); (try clear ho0))); go_upto_region 7 with (first | ((with_reducible refine gate_dst (N := 2) rfl ?_); (try (refine gate_guard (by rfl) ?_; dsimp only)); refine box_event ?hg (N := 2) ?hd (cs := #[.int .u8 a0_0, .int .u16 a0_1]) (t := 36) ?hr ?_; (case hd => rfl); (case hg => rfl); (case hr => first | (go_simp; done) | (go_simp; rfl)); intro gb297 hg w10 hbox hb; have n0_ := Aside0.mk (below_step (by repeat (first | (with_reducible first | exact HB.out | apply below_alloc | apply pw_below_drewN | apply below_drew1) | exact HB.out)) hb); have n1_ := Aside0.mk (hbox); have n2_ := Aside0.mk ((by rw [hg]; exact (below_size (by repeat (first | (with_reducible first | exact HB.out | apply below_alloc | apply pw_below_drewN | apply below_drew1) | exact HB.out))) : w.heap.size ≤ gb297)); have n3_ := Aside0.mk ((by rw [hg]; exact (below_size (by repeat (first | (with_reducible first | exact HB.out | apply below_alloc | apply pw_below_drewN | apply below_drew1) | exact HB.out))) : w.heap.size ≤ gb297)); clear HB; have HB := n0_; have BK297 := n1_; have GW297 := n2_; have GE297 := n3_; clear n0_ n1_ n2_ n3_; clear hb hbox hg) | (go_at_call 12; (with_reducible refine (schismalaw35_known.calls k  true _ A3.out).mono ?_); rintro e w11 ⟨rfl, hb⟩; have n0_ := Aside0.mk (blk_below (g := gb297) (o := .cells #[.int .u8 a0_0, .int .u16 a0_1] 36 (0, 0)) (by (with_reducible repeat (first | refine blk_drewN ?_ _ | refine blk_drew ?_ | refine blk_alloc ?_ _)); exact BK297.out) hb); have n1_ := Aside0.mk (below_step (by repeat (first | (with_reducible first | exact HB.out | apply below_alloc | apply pw_below_drewN | apply below_drew1 | refine below_set ?_ GE297.out) | exact HB.out)) hb); clear BK297; clear HB; have BK297 := n0_; have HB := n1_; clear n0_ n1_; (try clear hb); (try clear hb2); (try clear hk); (try clear hi); have hcz12_0 : w11.cell? ⟨gb297, 0, none⟩ = some (.int .u8 a0_0) := (blk_cell BK297.out 0).trans rfl; have hcz12_1 : w11.cell? ⟨gb297, 1, none⟩ = some (.int .u16 a0_1) := (blk_cell BK297.out 1).trans rfl; have hfz12_0 := blk_frozen BK297.out 0; have hfz12_1 := blk_frozen BK297.out 1) | (go_at_call 17; (with_reducible refine (schismalaw35_Make.calls k a0_0 a0_1 t299 t300 _ A5.out).mono ?_); rintro e w13 ⟨v301, rfl, ho0, hb⟩; have n0_ := Aside0.mk (Kd.R_lower ho0 (below_size (by repeat (first | (with_reducible first | exact HB.out | apply below_alloc | apply pw_below_drewN | apply below_drew1 | refine below_set ?_ GE297.out) | exact HB.out)))); have n1_ := Aside0.mk (blk_below (g := gb297) (o := .cells #[.int .u8 a0_0, .int .u16 a0_1] 36 (0, 0)) (by (with_reducible repeat (first | refine blk_drewN ?_ _ | refine blk_drew ?_ | refine blk_alloc ?_ _)); exact BK297.out) hb); have n2_ := Aside0.mk (below_step (by repeat (first | (with_reducible first | exact HB.out | apply below_alloc | apply pw_below_drewN | apply below_drew1 | refine below_set ?_ GE297.out) | exact HB.out)) hb); clear BK297; clear HB; have HO302 := n0_; have BK297 := n1_; have HB := n2_; clear n0_ n1_ n2_; (try clear hb); (try clear hb2); (try clear hk); (try clear hi); (try clear ho0); obtain ⟨Ao14, co14, eo14⟩ := Kd.R_slice HO302.out; subst eo14) | (go_at_call 28; (with_reducible refine (evenness_Spectrum.calls k t299 _ _ t300 (Int.tmod (wrap64 (a1)) (wrap64 ((t300.length : Int) + 1))) t303 t304 _ ?side1 ?side2 A7.out).mono ?_); (case side1 => repeat (first | exact (Kd.R_reads' HO302.out).2.2 | (with_reducible refine Kd.C_alloc ?_ _) | (with_reducible refine Kd.C_drewN ?_ _) | (with_reducible refine Kd.C_drew ?_))); (case side2 => exact (Kd.R_reads' HO302.out).2.1); rintro e w15 ⟨v305, rfl, ho0, hb⟩; have n0_ := Aside0.mk (Kd.R_elder' (by (with_reducible repeat (first | apply Kd.R_alloc | apply Kd.R_drewN | apply Kd.R_drew)); exact HO302.out) (Kd.R_base ho0) hb); have n1_ := Aside0.mk (Kd.R_lower (Kd.R_new' ho0 (Kd.R_lt (by (with_reducible repeat (first | apply Kd.R_alloc | apply Kd.R_drewN | apply Kd.R_drew)); exact HO302.out))) (below_size (by repeat (first | (with_reducible first | exact HB.out | apply below_alloc | apply pw_below_drewN | apply below_drew1 | refine below_set ?_ GE297.out) | exact HB.out)))); have n2_ := Aside0.mk (blk_below (g := gb297) (o := .cells #[.int .u8 a0_0, .int .u16 a0_1] 36 (0, 0)) (by (with_reducible repeat (first | refine blk_drewN ?_ _ | refine blk_drew ?_ | refine blk_alloc ?_ _)); exact BK297.out) hb); have n3_ := Aside0.mk (below_step (by repeat (first | (with_reducible first | exact HB.out | apply below_alloc | apply pw_below_drewN | apply below_drew1 | refine below_set ?_ GE297.out) | exact HB.out)) hb); clear HO302; clear BK297; clear HB; have HO302 := n0_; have HO306 := n1_; have BK297 := n2_; have HB := n3_; clear n0_ n1_ n2_ n3_; (try clear hb); (try clear hb2); (try clear hk); (try clear hi); (try clear ho0)) | (go_at_call 28; (with_reducible refine (evenness_Spectrum.calls k t299 _ _ t300 (wrap64 ((t300.length : Int) - (Int.tmod (wrap64 (a1)) (wrap64 ((t300.length : Int) + 1))))) t307 t308 _ ?side1 ?side2 A8.out).mono ?_); (case side1 => repeat (first | exact (Kd.R_reads' HO302.out).2.2 | (with_reducible refine Kd.C_alloc ?_ _) | (with_reducible refine Kd.C_drewN ?_ _) | (with_reducible refine Kd.C_drew ?_))); (case side2 => exact (Kd.R_reads' HO302.out).2.1); rintro e w16 ⟨v309, rfl, ho0, hb⟩; have n0_ := Aside0.mk (Kd.R_elder' (by (with_reducible repeat (first | apply Kd.R_alloc | apply Kd.R_drewN | apply Kd.R_drew)); exact HO302.out) (Kd.R_base ho0) hb); have n1_ := Aside0.mk (Kd.R_elder' (by (with_reducible repeat (first | apply Kd.R_alloc | apply Kd.R_drewN | apply Kd.R_drew)); exact HO306.out) (Kd.R_base ho0) hb); have n2_ := Aside0.mk (Kd.R_lower (Kd.R_new' (Kd.R_new' ho0 (Kd.R_lt (by (with_reducible repeat (first | apply Kd.R_alloc | apply Kd.R_drewN | apply Kd.R_drew)); exact HO302.out))) (Kd.R_lt (by (with_reducible repeat (first | apply Kd.R_alloc | apply Kd.R_drewN | apply Kd.R_drew)); exact HO306.out))) (below_size (by repeat (first | (with_reducible first | exact HB.out | apply below_alloc | apply pw_below_drewN | apply below_drew1 | refine below_set ?_ GE297.out) | exact HB.out)))); have n3_ := Aside0.mk (blk_below (g := gb297) (o := .cells #[.int .u8 a0_0, .int .u16 a0_1] 36 (0, 0)) (by (with_reducible repeat (first | refine blk_drewN ?_ _ | refine blk_drew ?_ | refine blk_alloc ?_ _)); exact BK297.out) hb); have n4_ := Aside0.mk (below_step (by repeat (first | (with_reducible first | exact HB.out | apply below_alloc | apply pw_below_drewN | apply below_drew1 | refine below_set ?_ GE297.out) | exact HB.out)) hb); clear HO302; clear HO306; clear BK297; clear HB; have HO302 := n0_; have HO306 := n1_; have HO310 := n2_; have BK297 := n3_; have HB := n4_; clear n0_ n1_ n2_ n3_ n4_; (try clear hb); (try clear hb2); (try clear hk); (try clear hi); (try clear ho0))))
      (try simp only [Act.put, List.setIfInBounds_toArray, List.set_cons_zero, List.set_cons_succ])
      go_cut [55] (fun v55 wc => ∃ (kq : Nat) (x55_8 : Bool), v55 = .bool x55_8 ∧ Aside0 (schismalaw35_EvennessSpectra.j0 kq t299 t303 t307 x55_8 = some r) ∧ Aside0 (kq ≤ k) ∧ Aside0 (Kd.R (Kd.int .i64) 3 wc w.heap.size (fun k_ => some k_ ≠ (v309 : Value).ownBlock) v305 t303) ∧ Aside0 (Kd.R (Kd.int .i64) 3 wc w.heap.size (fun k_ => some k_ ≠ (v305 : Value).ownBlock) v309 t307) ∧ Aside0 (wc.heap[gb297]? = some (.cells #[.int .u8 a0_0, .int .u16 a0_1] 36 (0, 0))) ∧ Aside0 (Below w.heap.size w wc))
      case first =>
        have H := HC9.out
        clear HC9
        by_cases c17 : t304 = 0
        · rw [if_pos c17] at H
          have c17b0 : (t304 == 0) = true := beq_iff_eq.mpr c17
          have c17b1 : (t304 != 0) = false := bne_eq_false_iff_eq.mpr c17
          clear c17
          (first | rw [c17b0] | (simp only [i64_w, i32_w]; rw [c17b0]) | skip)
          by_cases c18 : t308 = 0
          · rw [if_pos c18] at H
            have c18b0 : (t308 == 0) = true := beq_iff_eq.mpr c18
            have c18b1 : (t308 != 0) = false := bne_eq_false_iff_eq.mpr c18
            clear c18
            have H' := Aside0.mk H
            clear H
            obtain ⟨Ao19, co19, eo19⟩ := Kd.R_slice HO306.out
            subst eo19
            obtain ⟨Ao20, co20, eo20⟩ := Kd.R_slice HO310.out
            subst eo20
            go_wp2
            repeat (go_quiet (fail); try go_wp2)
            go_meet
            case rel => exact ⟨_, (((t303.length : Int) != (t307.length : Int))), (by first | rfl | (simp; done) | (simp [*]; done)), H', ⟨by first | omega | exact Nat.le_refl _⟩, ⟨by (with_reducible repeat (first | apply Kd.R_alloc | apply Kd.R_drewN | apply Kd.R_drew)); exact Kd.R_mono HO306.out (fun _ hk => hk.2)⟩, ⟨by (with_reducible repeat (first | apply Kd.R_alloc | apply Kd.R_drewN | apply Kd.R_drew)); exact Kd.R_mono HO310.out (fun _ hk => hk.2)⟩, ⟨by (with_reducible repeat (first | refine blk_drewN ?_ _ | refine blk_drew ?_ | refine blk_alloc ?_ _)); exact BK297.out⟩, ⟨by repeat (first | (with_reducible first | exact HB.out | apply below_alloc | apply pw_below_drewN | apply below_drew1 | refine below_set ?_ GE297.out) | exact HB.out)⟩⟩
          · rw [if_neg c18] at H
            have c18b0 : (t308 == 0) = false := beq_eq_false_iff_ne.mpr c18
            have c18b1 : (t308 != 0) = true := bne_iff_ne.mpr c18
            have H' := Aside0.mk H
            clear H
            go_wp2
            repeat (go_quiet (fail); try go_wp2)
            go_meet
            case rel => exact ⟨_, (true), (by first | rfl | (simp; done) | (simp [*]; done)), H', ⟨by first | omega | exact Nat.le_refl _⟩, ⟨by (with_reducible repeat (first | apply Kd.R_alloc | apply Kd.R_drewN | apply Kd.R_drew)); exact Kd.R_mono HO306.out (fun _ hk => hk.2)⟩, ⟨by (with_reducible repeat (first | apply Kd.R_alloc | apply Kd.R_drewN | apply Kd.R_drew)); exact Kd.R_mono HO310.out (fun _ hk => hk.2)⟩, ⟨by (with_reducible repeat (first | refine blk_drewN ?_ _ | refine blk_drew ?_ | refine blk_alloc ?_ _)); exact BK297.out⟩, ⟨by repeat (first | (with_reducible first | exact HB.out | apply below_alloc | apply pw_below_drewN | apply below_drew1 | refine below_set ?_ GE297.out) | exact HB.out)⟩⟩
        · rw [if_neg c17] at H
          have c17b0 : (t304 == 0) = false := beq_eq_false_iff_ne.mpr c17
          have c17b1 : (t304 != 0) = true := bne_iff_ne.mpr c17
          (first | rw [c17b0] | (simp only [i64_w, i32_w]; rw [c17b0]) | skip)
          have H' := Aside0.mk H
          clear H
          go_wp2
          repeat (go_quiet (fail); try go_wp2)
          go_meet
          case rel => exact ⟨_, (true), (by first | rfl | (simp; done) | (simp [*]; done)), H', ⟨by first | omega | exact Nat.le_refl _⟩, ⟨by (with_reducible repeat (first | apply Kd.R_alloc | apply Kd.R_drewN | apply Kd.R_drew)); exact Kd.R_mono HO306.out (fun _ hk => hk.2)⟩, ⟨by (with_reducible repeat (first | apply Kd.R_alloc | apply Kd.R_drewN | apply Kd.R_drew)); exact Kd.R_mono HO310.out (fun _ hk => hk.2)⟩, ⟨by (with_reducible repeat (first | refine blk_drewN ?_ _ | refine blk_drew ?_ | refine blk_alloc ?_ _)); exact BK297.out⟩, ⟨by repeat (first | (with_reducible first | exact HB.out | apply below_alloc | apply pw_below_drewN | apply below_drew1 | refine below_set ?_ GE297.out) | exact HB.out)⟩⟩
      case rest =>
        clear HC9
        try clear c1
        try clear p2
        try clear c4
        try clear c6
        try clear c6b0
        try clear c6b1
        try clear p6
        try clear c8
        try clear c17
        try clear c17b0
        try clear c17b1
        try clear c18
        try clear c18b0
        try clear c18b1
        try clear hcz12_0
        try clear hcz12_1
        try clear hfz12_0
        try clear hfz12_1
        obtain ⟨kq, x55_8, rfl, HA, HJ8, HO_8, HO_10, BK297, HB⟩ := hcut
        cases kq with
        | zero => exact absurd HA.out (by simp [schismalaw35_EvennessSpectra.j0])
        | succ kj8 =>
          have H := HA.out
          clear HA
          simp only [schismalaw35_EvennessSpectra.j0] at H
          by_cases c21 : x55_8 = true
          · subst c21
            have H1 : (some false) = some r := by rw [if_pos rfl] at H; exact H
            clear H
            have H := H1
            clear H1
            obtain rfl := Option.some.inj H
            go_wp2
            repeat (go_quiet (fail); try go_wp2)
            go_ret
            exact ⟨by first | rfl | (simp [errW_none, errW_some] <;> rfl) | (simp [*, errW_none, errW_some] <;> rfl), by repeat (first | (with_reducible first | exact HB.out | apply below_alloc | apply pw_below_drewN | apply below_drew1 | refine below_set ?_ GE297.out) | exact HB.out)⟩
          · replace c21 := Bool.eq_false_iff.mpr c21
            subst c21
            have H1 : (schismalaw35_EvennessSpectra.l0 kj8 t299 t303 t307 (t303.length : Int) 0) = some r := by rw [if_neg (show ¬ (false = true) by decide)] at H; exact H
            clear H
            have H := H1
            clear H1
            have H' := Aside0.mk H
            clear H
            obtain ⟨Ao22, co22, eo22⟩ := Kd.R_slice HO_8.out
            subst eo22
            go_wp2
            repeat (go_quiet (fail); try go_wp2)
            go_loopg [58] kj8 (fun kq v58 w' => ∃ (x58_2 : Int), v58 = .int .i64 x58_2 ∧ Aside0 (schismalaw35_EvennessSpectra.l0 kq t299 t303 t307 (t303.length : Int) x58_2 = some r) ∧ Aside0 (kq ≤ kj8) ∧ Aside0 (Kd.R (Kd.int .i64) 3 w' w.heap.size (fun k_ => some k_ ≠ (v309 : Value).ownBlock) (.slice Ao22 t303.length co22) t303) ∧ Aside0 (Kd.R (Kd.int .i64) 3 w' w.heap.size (fun k_ => some k_ ≠ ((.slice Ao22 t303.length co22) : Value).ownBlock) v309 t307) ∧ Aside0 (w'.heap[gb297]? = some (.cells #[.int .u8 a0_0, .int .u16 a0_1] 36 (0, 0))) ∧ Aside0 (Below w.heap.size w w'))
            case atStart => exact ⟨(0), (by first | rfl | (simp; done) | (simp [*]; done)), H', ⟨Nat.le_refl _⟩, ⟨by (with_reducible repeat (first | apply Kd.R_alloc | apply Kd.R_drewN | apply Kd.R_drew)); exact HO_8.out⟩, ⟨by (with_reducible repeat (first | apply Kd.R_alloc | apply Kd.R_drewN | apply Kd.R_drew)); exact HO_10.out⟩, ⟨by (with_reducible repeat (first | refine blk_drewN ?_ _ | refine blk_drew ?_ | refine blk_alloc ?_ _)); exact BK297.out⟩, ⟨by repeat (first | (with_reducible first | exact HB.out | apply below_alloc | apply pw_below_drewN | apply below_drew1 | refine below_set ?_ GE297.out) | exact HB.out)⟩⟩
            case round =>
              clear H'
              try clear c1
              try clear c2
              try clear p2
              try clear c4
              try clear c6
              try clear c6b0
              try clear c6b1
              try clear p6
              try clear c8
              try clear c17
              try clear c17b0
              try clear c17b1
              try clear c18
              try clear c18b0
              try clear c18b1
              try clear c21
              try clear hcz12_0
              try clear hcz12_1
              try clear hfz12_0
              try clear hfz12_1
              try clear p2
              try clear p6
              obtain ⟨x58_2, rfl, HA, HK2, HO_8, HO_10, BK297, HB⟩ := hrel
              cases gk with
              | zero => exact absurd HA.out (by simp [schismalaw35_EvennessSpectra.l0])
              | succ k2 =>
                have H := HA.out
                clear HA
                simp only [schismalaw35_EvennessSpectra.l0] at H
                by_cases c23 : x58_2 < (t303.length : Int)
                · rw [if_pos c23] at H
                  have c23b0 : decide (x58_2 < (t303.length : Int)) = true := decide_eq_true c23
                  clear c23
                  by_cases c24 : 0 ≤ x58_2
                  · rw [if_pos c24] at H
                    have c24b0 : decide (0 ≤ x58_2) = true := decide_eq_true c24
                    clear c24
                    by_cases c25 : x58_2 < (t303.length : Int)
                    · rw [if_pos c25] at H
                      have c25b0 : decide (x58_2 < (t303.length : Int)) = true := decide_eq_true c25
                      clear c25
                      obtain ⟨ji26, hji26⟩ : ∃ j_ : Int, (wrap64 ((wrap64 ((t307.length : Int) - 1)) - x58_2)) = j_ := ⟨_, rfl⟩
                      replace H : (if 0 ≤ (ji26) then (if (ji26) < (t307.length : Int) then (if (wrap64 ((rd t303 x58_2) + (rd t307 (ji26)))) = t299 then (schismalaw35_EvennessSpectra.l0 k2 t299 t303 t307 (t303.length : Int) (wrap64 (x58_2 + 1))) else (some false)) else (none)) else (none)) = some r := by first | (rw [hji26] at H; exact H) | (simp only [hji26] at H ⊢; exact H)
                      have hji26w : (IntKind.i64.wrap ((wrap64 ((t307.length : Int) - 1)) - x58_2)) = ji26 := (i64_w _).trans hji26
                      by_cases c27 : 0 ≤ (ji26)
                      · rw [if_pos c27] at H
                        have c27b0 : decide (0 ≤ (ji26)) = true := decide_eq_true c27
                        clear c27
                        by_cases c28 : (ji26) < (t307.length : Int)
                        · rw [if_pos c28] at H
                          have c28b0 : decide ((ji26) < (t307.length : Int)) = true := decide_eq_true c28
                          clear c28
                          by_cases c29 : (wrap64 ((rd t303 x58_2) + (rd t307 (ji26)))) = t299
                          · rw [if_pos c29] at H
                            have c29b0 : ((wrap64 ((rd t303 x58_2) + (rd t307 (ji26)))) == t299) = true := beq_iff_eq.mpr c29
                            have c29b1 : ((wrap64 ((rd t303 x58_2) + (rd t307 (ji26)))) != t299) = false := bne_eq_false_iff_eq.mpr c29
                            clear c29
                            have H' := Aside0.mk H
                            clear H
                            have p311 : 0 ≤ (x58_2 : Int) := of_decide_eq_true (by first | (with_reducible assumption) | assumption)
                            have q311 : x58_2 < (t303.length : Int) := of_decide_eq_true (by first | (with_reducible assumption) | assumption)
                            obtain ⟨ad311, e311, hx311_0⟩ := Kd.at_int (Kd.R_reads' HO_8.out).2.2 x58_2 p311 q311
                            cases e311
                            replace p311 := eq_true p311
                            replace q311 := eq_true q311
                            obtain ⟨Ao30, co30, eo30⟩ := Kd.R_slice HO_10.out
                            subst eo30
                            have p312 : 0 ≤ ((ji26) : Int) := of_decide_eq_true (by first | (with_reducible assumption) | assumption)
                            have q312 : (ji26) < (t307.length : Int) := of_decide_eq_true (by first | (with_reducible assumption) | assumption)
                            obtain ⟨ad312, e312, hx312_0⟩ := Kd.at_int (Kd.R_reads' HO_10.out).2.2 (ji26) p312 q312
                            cases e312
                            replace p312 := eq_true p312
                            replace q312 := eq_true q312
                            go_wp2
                            repeat (go_quiet (fail); try go_wp2)
                            go_roundg k2
                            case measure => have := HJ8.out; have := HK2.out; omega
                            case rel => exact ⟨(wrap64 (x58_2 + 1)), (by first | rfl | (simp; done) | (simp [*]; done)), H', ⟨by have := HJ8.out; have := HK2.out; omega⟩, ⟨by (with_reducible repeat (first | apply Kd.R_alloc | apply Kd.R_drewN | apply Kd.R_drew)); exact HO_8.out⟩, ⟨by (with_reducible repeat (first | apply Kd.R_alloc | apply Kd.R_drewN | apply Kd.R_drew)); exact HO_10.out⟩, ⟨by (with_reducible repeat (first | refine blk_drewN ?_ _ | refine blk_drew ?_ | refine blk_alloc ?_ _)); exact BK297.out⟩, ⟨by repeat (first | (with_reducible first | exact HB.out | apply below_alloc | apply pw_below_drewN | apply below_drew1 | refine below_set ?_ GE297.out) | exact HB.out)⟩⟩
                          · rw [if_neg c29] at H
                            have c29b0 : ((wrap64 ((rd t303 x58_2) + (rd t307 (ji26)))) == t299) = false := beq_eq_false_iff_ne.mpr c29
                            have c29b1 : ((wrap64 ((rd t303 x58_2) + (rd t307 (ji26)))) != t299) = true := bne_iff_ne.mpr c29
                            obtain rfl := Option.some.inj H
                            have p311 : 0 ≤ (x58_2 : Int) := of_decide_eq_true (by first | (with_reducible assumption) | assumption)
                            have q311 : x58_2 < (t303.length : Int) := of_decide_eq_true (by first | (with_reducible assumption) | assumption)
                            obtain ⟨ad311, e311, hx311_0⟩ := Kd.at_int (Kd.R_reads' HO_8.out).2.2 x58_2 p311 q311
                            cases e311
                            replace p311 := eq_true p311
                            replace q311 := eq_true q311
                            obtain ⟨Ao31, co31, eo31⟩ := Kd.R_slice HO_10.out
                            subst eo31
                            have p312 : 0 ≤ ((ji26) : Int) := of_decide_eq_true (by first | (with_reducible assumption) | assumption)
                            have q312 : (ji26) < (t307.length : Int) := of_decide_eq_true (by first | (with_reducible assumption) | assumption)
                            obtain ⟨ad312, e312, hx312_0⟩ := Kd.at_int (Kd.R_reads' HO_10.out).2.2 (ji26) p312 q312
                            cases e312
                            replace p312 := eq_true p312
                            replace q312 := eq_true q312
                            go_wp2
                            repeat (go_quiet (fail); try go_wp2)
                            go_ret
                            exact ⟨by first | rfl | (simp [errW_none, errW_some] <;> rfl) | (simp only [← hji26]; first | rfl | (simp [errW_none, errW_some] <;> rfl)) | (simp [*, errW_none, errW_some] <;> rfl), by repeat (first | (with_reducible first | exact HB.out | apply below_alloc | apply pw_below_drewN | apply below_drew1 | refine below_set ?_ GE297.out) | exact HB.out)⟩
                        · rw [if_neg c28] at H
                          exact absurd H (by simp)
                      · rw [if_neg c27] at H
                        exact absurd H (by simp)
                    · rw [if_neg c25] at H
                      exact absurd H (by simp)
                  · rw [if_neg c24] at H
                    exact absurd H (by simp)
                · rw [if_neg c23] at H
                  have c23b0 : decide (x58_2 < (t303.length : Int)) = false := decide_eq_false c23
                  clear c23
                  obtain rfl := Option.some.inj H
                  go_wp2
                  repeat (go_quiet (fail); try go_wp2)
                  go_ret
                  exact ⟨by first | rfl | (simp [errW_none, errW_some] <;> rfl) | (simp [*, errW_none, errW_some] <;> rfl), by repeat (first | (with_reducible first | exact HB.out | apply below_alloc | apply pw_below_drewN | apply below_drew1 | refine below_set ?_ GE297.out) | exact HB.out)⟩
  · replace c4 := Bool.eq_false_iff.mpr c4
    subst c4
    have H1 : (some false) = some r := by rw [if_neg (show ¬ (false = true) by decide)] at H; exact H
    clear H
    have H := H1
    clear H1
    obtain rfl := Option.some.inj H
    go_enter Try.func8, Try.ntmps8
    go_wp2_with (first | ((with_reducible refine gate_dst (N := 2) rfl ?_); (try (refine gate_guard (by rfl) ?_; dsimp only)); refine box_event ?hg (N := 2) ?hd (cs := #[.int .u8 a0_0, .int .u16 a0_1]) (t := 36) ?hr ?_; (case hd => rfl); (case hg => rfl); (case hr => first | (go_simp; done) | (go_simp; rfl)); intro gb297 hg w32 hbox hb; have n0_ := Aside0.mk (below_step (by repeat (first | (with_reducible first | exact HB.out | apply below_alloc | apply pw_below_drewN | apply below_drew1) | exact HB.out)) hb); have n1_ := Aside0.mk (hbox); have n2_ := Aside0.mk ((by rw [hg]; exact (below_size (by repeat (first | (with_reducible first | exact HB.out | apply below_alloc | apply pw_below_drewN | apply below_drew1) | exact HB.out))) : w.heap.size ≤ gb297)); have n3_ := Aside0.mk ((by rw [hg]; exact (below_size (by repeat (first | (with_reducible first | exact HB.out | apply below_alloc | apply pw_below_drewN | apply below_drew1) | exact HB.out))) : w.heap.size ≤ gb297)); clear HB; have HB := n0_; have BK297 := n1_; have GW297 := n2_; have GE297 := n3_; clear n0_ n1_ n2_ n3_; clear hb hbox hg) | (go_at_call 12; (with_reducible refine (schismalaw35_known.calls k  false _ A3.out).mono ?_); rintro e w33 ⟨rfl, hb⟩; have n0_ := Aside0.mk (blk_below (g := gb297) (o := .cells #[.int .u8 a0_0, .int .u16 a0_1] 36 (0, 0)) (by (with_reducible repeat (first | refine blk_drewN ?_ _ | refine blk_drew ?_ | refine blk_alloc ?_ _)); exact BK297.out) hb); have n1_ := Aside0.mk (below_step (by repeat (first | (with_reducible first | exact HB.out | apply below_alloc | apply pw_below_drewN | apply below_drew1 | refine below_set ?_ GE297.out) | exact HB.out)) hb); clear BK297; clear HB; have BK297 := n0_; have HB := n1_; clear n0_ n1_; (try clear hb); (try clear hb2); (try clear hk); (try clear hi)))
    repeat (go_quiet (first | ((with_reducible refine gate_dst (N := 2) rfl ?_); (try (refine gate_guard (by rfl) ?_; dsimp only)); refine box_event ?hg (N := 2) ?hd (cs := #[.int .u8 a0_0, .int .u16 a0_1]) (t := 36) ?hr ?_; (case hd => rfl); (case hg => rfl); (case hr => first | (go_simp; done) | (go_simp; rfl)); intro gb297 hg w32 hbox hb; have n0_ := Aside0.mk (below_step (by repeat (first | (with_reducible first | exact HB.out | apply below_alloc | apply pw_below_drewN | apply below_drew1) | exact HB.out)) hb); have n1_ := Aside0.mk (hbox); have n2_ := Aside0.mk ((by rw [hg]; exact (below_size (by repeat (first | (with_reducible first | exact HB.out | apply below_alloc | apply pw_below_drewN | apply below_drew1) | exact HB.out))) : w.heap.size ≤ gb297)); have n3_ := Aside0.mk ((by rw [hg]; exact (below_size (by repeat (first | (with_reducible first | exact HB.out | apply below_alloc | apply pw_below_drewN | apply below_drew1) | exact HB.out))) : w.heap.size ≤ gb297)); clear HB; have HB := n0_; have BK297 := n1_; have GW297 := n2_; have GE297 := n3_; clear n0_ n1_ n2_ n3_; clear hb hbox hg) | (go_at_call 12; (with_reducible refine (schismalaw35_known.calls k  false _ A3.out).mono ?_); rintro e w33 ⟨rfl, hb⟩; have n0_ := Aside0.mk (blk_below (g := gb297) (o := .cells #[.int .u8 a0_0, .int .u16 a0_1] 36 (0, 0)) (by (with_reducible repeat (first | refine blk_drewN ?_ _ | refine blk_drew ?_ | refine blk_alloc ?_ _)); exact BK297.out) hb); have n1_ := Aside0.mk (below_step (by repeat (first | (with_reducible first | exact HB.out | apply below_alloc | apply pw_below_drewN | apply below_drew1 | refine below_set ?_ GE297.out) | exact HB.out)) hb); clear BK297; clear HB; have BK297 := n0_; have HB := n1_; clear n0_ n1_; (try clear hb); (try clear hb2); (try clear hk); (try clear hi))); try go_wp2_with (first | ((with_reducible refine gate_dst (N := 2) rfl ?_); (try (refine gate_guard (by rfl) ?_; dsimp only)); refine box_event ?hg (N := 2) ?hd (cs := #[.int .u8 a0_0, .int .u16 a0_1]) (t := 36) ?hr ?_; (case hd => rfl); (case hg => rfl); (case hr => first | (go_simp; done) | (go_simp; rfl)); intro gb297 hg w32 hbox hb; have n0_ := Aside0.mk (below_step (by repeat (first | (with_reducible first | exact HB.out | apply below_alloc | apply pw_below_drewN | apply below_drew1) | exact HB.out)) hb); have n1_ := Aside0.mk (hbox); have n2_ := Aside0.mk ((by rw [hg]; exact (below_size (by repeat (first | (with_reducible first | exact HB.out | apply below_alloc | apply pw_below_drewN | apply below_drew1) | exact HB.out))) : w.heap.size ≤ gb297)); have n3_ := Aside0.mk ((by rw [hg]; exact (below_size (by repeat (first | (with_reducible first | exact HB.out | apply below_alloc | apply pw_below_drewN | apply below_drew1) | exact HB.out))) : w.heap.size ≤ gb297)); clear HB; have HB := n0_; have BK297 := n1_; have GW297 := n2_; have GE297 := n3_; clear n0_ n1_ n2_ n3_; clear hb hbox hg) | (go_at_call 12; (with_reducible refine (schismalaw35_known.calls k  false _ A3.out).mono ?_); rintro e w33 ⟨rfl, hb⟩; have n0_ := Aside0.mk (blk_below (g := gb297) (o := .cells #[.int .u8 a0_0, .int .u16 a0_1] 36 (0, 0)) (by (with_reducible repeat (first | refine blk_drewN ?_ _ | refine blk_drew ?_ | refine blk_alloc ?_ _)); exact BK297.out) hb); have n1_ := Aside0.mk (below_step (by repeat (first | (with_reducible first | exact HB.out | apply below_alloc | apply pw_below_drewN | apply below_drew1 | refine below_set ?_ GE297.out) | exact HB.out)) hb); clear BK297; clear HB; have BK297 := n0_; have HB := n1_; clear n0_ n1_; (try clear hb); (try clear hb2); (try clear hk); (try clear hi))))
    go_ret
    exact ⟨by first | rfl | (simp [errW_none, errW_some] <;> rfl) | (simp [*, errW_none, errW_some] <;> rfl), by repeat (first | (with_reducible first | exact HB.out | apply below_alloc | apply pw_below_drewN | apply below_drew1 | refine below_set ?_ GE297.out) | exact HB.out)⟩

end Go.Proofs.Ytdbleoijefihhaa.PEv
