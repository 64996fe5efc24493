-- Written for this claim by a program of this session (myprint.py).
import Derived.Test.YtdbleoijefihhaaPEvx0
import Derived.Test.YtdbleoijefihhaaPEvx2
import Derived.Test.YtdbleoijefihhaaPEvx4
import Derived.Test.YtdbleoijefihhaaHa
namespace Go.Proofs.Ytdbleoijefihhaa.PEv
open Go.RowKit Go.Proofs.YtdbleoijefihhaaW.PrintWords Go.Proofs.YtdbleoijefihhaaW.PrintLast Go.Proofs.YtdbleoijefihhaaW.PrintMore
attribute [local go_sem] max2_int min2_int max_two min_two max_three min_three max_four min_four   -- for this text's walks alone
set_option linter.unusedVariables false
set_option linter.unusedSimpArgs false

/-! ### schismalaw35_even: function 20 -/
def schismalaw35_even.l0 : Nat → Int → List Int → Int → Option (Bool × Int × Int × Int)
  | 0, _, _, _ => none
  | k + 1, x0, x1, x6 => if x6 < (x1.length : Int) then ((schismalaw35_sizes.f k x0 x1 x6).bind fun t222 => ((slices_Min_int_int.f t222).bind fun t225 => ((slices_Max_int_int.f t222).bind fun t226 => (if (wrap64 (t226 - t225)) > 1 then ((slices_Index_int_int.f k t222 t225).bind fun t227 => ((slices_Index_int_int.f k t222 t226).bind fun t228 => (some (false, x6, t227, t228)))) else (schismalaw35_even.l0 k x0 x1 (wrap64 (x6 + 1))))))) else (some (true, 0, 0, 0))
def schismalaw35_even.f (k : Nat) (a0 : Int) (l1 : List Int) : Option (Bool × Int × Int × Int) := schismalaw35_even.l0 k a0 l1 1
theorem schismalaw35_even.mono_l : ∀ k, (∀ y0 y1 y2, LeO (schismalaw35_even.l0 k y0 y1 y2) (schismalaw35_even.l0 (k + 1) y0 y1 y2))
  | 0 => fun _ _ _ r h => by simp [schismalaw35_even.l0] at h
  | k + 1 => by
    have ih0 := schismalaw35_even.mono_l k
    · intro y0 y1 y2
      unfold schismalaw35_even.l0
      repeat' first
      | (with_reducible exact ih0 _ _ _)
      | (with_reducible exact schismalaw35_sizes.mono _ _ _ _)
      | (with_reducible exact slices_Index_int_int.mono _ _ _)
      | (with_reducible exact LeO.refl _)
      | (with_reducible exact LeO.none _)
      | (with_reducible refine LeO.ite ?_ ?_)
      | (with_reducible refine LeO.bind ?_ (fun _ => ?_))
      | exact ih0 _ _ _
      | exact schismalaw35_sizes.mono _ _ _ _
      | exact slices_Index_int_int.mono _ _ _
      | exact LeO.none _
      | refine LeO.ite ?_ ?_
      | refine LeO.bind ?_ (fun _ => ?_)
theorem schismalaw35_even.mono : ∀ a0 a1 k, LeO (schismalaw35_even.f k a0 a1) (schismalaw35_even.f (k + 1) a0 a1) := by
  intro a0 a1 k
  have ih0 := schismalaw35_even.mono_l k
  unfold schismalaw35_even.f
  repeat' first
      | (with_reducible exact ih0 _ _ _)
      | (with_reducible exact schismalaw35_sizes.mono _ _ _ _)
      | (with_reducible exact slices_Index_int_int.mono _ _ _)
      | (with_reducible exact LeO.refl _)
      | (with_reducible exact LeO.none _)
      | (with_reducible refine LeO.ite ?_ ?_)
      | (with_reducible refine LeO.bind ?_ (fun _ => ?_))
      | exact ih0 _ _ _
      | exact schismalaw35_sizes.mono _ _ _ _
      | exact slices_Index_int_int.mono _ _ _
      | exact LeO.none _
      | refine LeO.ite ?_ ?_
      | refine LeO.bind ?_ (fun _ => ?_)
set_option maxHeartbeats 8000000 in
set_option maxRecDepth 100000 in
theorem schismalaw35_even.calls (k : Nat) (a0 : Int) (A1 : Option Addr) (c1 : Nat) (l1 : List Int) (r1 : Bool) (r2 : Int) (r3 : Int) (r4 : Int) (w : World) (hr1 : Kd.C (Kd.int .i64) w A1 l1.length l1) (hc1 : l1.length ≤ c1) (h : schismalaw35_even.f k a0 l1 = some (r1, r2, r3, r4)) :
    Calls Try.prog 20 #[.int .i64 a0, .slice A1 l1.length c1] w fun e w' => e = .returned (.tuple #[.bool r1, .agg #[.int .i64 r2, .int .i64 r3, .int .i64 r4]]) ∧ Below w.heap.size w w' := by
  have hu46 := Try.underlying46
  have HR1 := Aside0.mk hr1
  have HC1 := Aside0.mk hc1
  clear hr1 hc1
  have HB := Aside0.mk (Below.refl w.heap.size w)
  have H : (schismalaw35_even.l0 k a0 l1 1) = some (r1, r2, r3, r4) := h
  clear h
  have H' := Aside0.mk H
  clear H
  go_enter Try.func20, Try.ntmps20
  go_wp2_with (first | ((with_reducible refine gate_dst (N := 5) rfl ?_); refine box_event ?hg (N := 5) ?hd (cs := #[.int .i64 0, .int .i64 0, .int .i64 0]) (t := 46) ?hr ?_; (case hd => rfl); (case hg => rfl); (case hr => first | (go_simp; done) | (go_simp; rfl)); intro gb221 hg w3 hbox hb; have n0_ := Aside0.mk (below_step (by repeat (first | (with_reducible first | exact HB.out | apply below_alloc | apply pw_below_drewN | apply below_drew1) | exact HB.out)) hb); have n1_ := Aside0.mk (hbox); have n2_ := Aside0.mk ((by rw [hg]; exact (below_size (by repeat (first | (with_reducible first | exact HB.out | apply below_alloc | apply pw_below_drewN | apply below_drew1) | exact HB.out))) : w.heap.size ≤ gb221)); have n3_ := Aside0.mk ((by rw [hg]; exact (below_size (by repeat (first | (with_reducible first | exact HB.out | apply below_alloc | apply pw_below_drewN | apply below_drew1) | exact HB.out))) : w.heap.size ≤ gb221)); clear HB; have HB := n0_; have BK221 := n1_; have GW221 := n2_; have GE221 := n3_; clear n0_ n1_ n2_ n3_; clear hb hbox hg))
  go_loopg [6] k (fun kq v6 w' => ∃ (x6_1 : Int) (x222000_1 : Int) (x222001_1 : Int) (x222002_1 : Int), v6 = .int .i64 x6_1 ∧ Aside0 (schismalaw35_even.l0 kq a0 l1 x6_1 = some (r1, r2, r3, r4)) ∧ Aside0 (kq ≤ k) ∧ Aside0 (w'.heap[gb221]? = some (.cells #[.int .i64 x222000_1, .int .i64 x222001_1, .int .i64 x222002_1] 46 (0, 0))) ∧ Aside0 (Below w.heap.size w w'))
  case atStart => exact ⟨(1), (0), (0), (0), (by first | rfl | (simp; done) | (simp [*]; done)), H', ⟨Nat.le_refl _⟩, ⟨by (with_reducible repeat (first | refine blk_drewN ?_ _ | refine blk_drew ?_ | refine blk_alloc ?_ _)); exact BK221.out⟩, ⟨by repeat (first | (with_reducible first | exact HB.out | apply below_alloc | apply pw_below_drewN | apply below_drew1 | refine below_set ?_ GE221.out) | exact HB.out)⟩⟩
  case round =>
    clear H'
    try clear c1
    try clear c2
    try clear p2
    obtain ⟨x6_1, x222000_1, x222001_1, x222002_1, rfl, HA, HK1, BK221, HB⟩ := hrel
    cases gk with
    | zero => exact absurd HA.out (by simp [schismalaw35_even.l0])
    | succ k1 =>
      have H := HA.out
      clear HA
      simp only [schismalaw35_even.l0] at H
      by_cases c4 : x6_1 < (l1.length : Int)
      · rw [if_pos c4] at H
        have c4b0 : decide (x6_1 < (l1.length : Int)) = true := decide_eq_true c4
        clear c4
        replace H := Option.bind_eq_some_iff.mp H
        obtain ⟨t222, A50, H⟩ := H
        replace H : ((slices_Min_int_int.f t222).bind fun t225 => ((slices_Max_int_int.f t222).bind fun t226 => (if (wrap64 (t226 - t225)) > 1 then ((slices_Index_int_int.f k1 t222 t225).bind fun t227 => ((slices_Index_int_int.f k1 t222 t226).bind fun t228 => (some (false, x6_1, t227, t228)))) else (schismalaw35_even.l0 k1 a0 l1 (wrap64 (x6_1 + 1)))))) = some (r1, r2, r3, r4) := H
        have A5 := Aside0.mk A50
        clear A50
        replace H := Option.bind_eq_some_iff.mp H
        obtain ⟨t225, A60, H⟩ := H
        replace H : ((slices_Max_int_int.f t222).bind fun t226 => (if (wrap64 (t226 - t225)) > 1 then ((slices_Index_int_int.f k1 t222 t225).bind fun t227 => ((slices_Index_int_int.f k1 t222 t226).bind fun t228 => (some (false, x6_1, t227, t228)))) else (schismalaw35_even.l0 k1 a0 l1 (wrap64 (x6_1 + 1))))) = some (r1, r2, r3, r4) := H
        have A6 := Aside0.mk A60
        clear A60
        replace H := Option.bind_eq_some_iff.mp H
        obtain ⟨t226, A70, H⟩ := H
        replace H : (if (wrap64 (t226 - t225)) > 1 then ((slices_Index_int_int.f k1 t222 t225).bind fun t227 => ((slices_Index_int_int.f k1 t222 t226).bind fun t228 => (some (false, x6_1, t227, t228)))) else (schismalaw35_even.l0 k1 a0 l1 (wrap64 (x6_1 + 1)))) = some (r1, r2, r3, r4) := H
        have A7 := Aside0.mk A70
        clear A70
        by_cases c8 : (wrap64 (t226 - t225)) > 1
        · rw [if_pos c8] at H
          have c8b0 : decide (1 < (wrap64 (t226 - t225))) = true := decide_eq_true c8
          clear c8
          replace H := Option.bind_eq_some_iff.mp H
          obtain ⟨t227, A90, H⟩ := H
          replace H : ((slices_Index_int_int.f k1 t222 t226).bind fun t228 => (some (false, x6_1, t227, t228))) = some (r1, r2, r3, r4) := H
          have A9 := Aside0.mk A90
          clear A90
          replace H := Option.bind_eq_some_iff.mp H
          obtain ⟨t228, A100, H⟩ := H
          replace H : (some (false, x6_1, t227, t228)) = some (r1, r2, r3, r4) := H
          have A10 := Aside0.mk A100
          clear A100
          simp only [Option.some.injEq, Prod.mk.injEq] at H
          obtain ⟨rfl, rfl, rfl, rfl⟩ := H
          go_wp2_with (first | ((with_reducible refine gate_callee (f := 30) rfl ?_); refine goesL_ (some 19) rfl rfl Try.func30 (by kernel_rfl) rfl #[.int .i64 a0, .slice A1 l1.length c1, .int .i64 x6_1] rfl (by (try simp only [List.map_toArray, List.map_cons, List.map_nil]); first | done | rfl | (simp only [List.length_drop, List.length_take]; rfl)) ?_; (with_reducible refine (schismalaw35_sizes.calls k1 a0 _ _ l1 x6_1 t222 _ ?side1 ?side2 A5.out).mono ?_); (case side1 => repeat (first | exact (Kd.C_below HR1.out HB.out) | (with_reducible refine Kd.C_alloc ?_ _) | (with_reducible refine Kd.C_drewN ?_ _) | (with_reducible refine Kd.C_drew ?_))); (case side2 => exact HC1.out); rintro e w11 ⟨v223, rfl, ho0, hb⟩; refine ⟨_, rfl, ?_⟩; have n0_ := Aside0.mk (Kd.R_lower ho0 (below_size (by repeat (first | (with_reducible first | exact HB.out | apply below_alloc | apply pw_below_drewN | apply below_drew1 | refine below_set ?_ GE221.out) | exact HB.out)))); have n1_ := Aside0.mk (blk_below (g := gb221) (o := .cells #[.int .i64 x222000_1, .int .i64 x222001_1, .int .i64 x222002_1] 46 (0, 0)) (by (with_reducible repeat (first | refine blk_drewN ?_ _ | refine blk_drew ?_ | refine blk_alloc ?_ _)); exact BK221.out) hb); have n2_ := Aside0.mk (below_step (by repeat (first | (with_reducible first | exact HB.out | apply below_alloc | apply pw_below_drewN | apply below_drew1 | refine below_set ?_ GE221.out) | exact HB.out)) hb); clear BK221; clear HB; have HO224 := n0_; have BK221 := n1_; have HB := n2_; clear n0_ n1_ n2_; (try clear hb); (try clear hb2); (try clear hk); (try clear hi); (try clear ho0); obtain ⟨Ao12, co12, eo12⟩ := Kd.R_slice HO224.out; subst eo12) | ((with_reducible refine gate_callee (f := 39) rfl ?_); refine goesL_ (some 21) rfl rfl Try.func39 (by kernel_rfl) rfl #[.slice Ao12 t222.length co12] rfl (by (try simp only [List.map_toArray, List.map_cons, List.map_nil]); first | done | rfl | (simp only [List.length_drop, List.length_take]; rfl)) ?_; (with_reducible refine (slices_Min_int_int.calls _ _ t222 t225 _ ?side1 ?side2 A6.out).mono ?_); (case side1 => repeat (first | exact (Kd.R_reads' HO224.out).2.2 | (with_reducible refine Kd.C_alloc ?_ _) | (with_reducible refine Kd.C_drewN ?_ _) | (with_reducible refine Kd.C_drew ?_))); (case side2 => exact (Kd.R_reads' HO224.out).2.1); rintro e w' ⟨rfl, ⟨nd, rfl⟩⟩; refine ⟨_, rfl, ?_⟩; (try (rw [drewN_self w11]; generalize hq_ : World.drewN w11 _ = w11; have n0_ : Aside0 (Kd.R (Kd.int .i64) 3 w11 w.heap.size (fun _ => True) (.slice Ao12 t222.length co12) t222) := ⟨by rw [← hq_]; exact (by (with_reducible repeat (first | apply Kd.R_alloc | apply Kd.R_drewN | apply Kd.R_drew)); exact HO224.out)⟩; have n1_ : Aside0 (w11.heap[gb221]? = some (.cells #[.int .i64 x222000_1, .int .i64 x222001_1, .int .i64 x222002_1] 46 (0, 0))) := ⟨by rw [← hq_]; exact (by (with_reducible repeat (first | refine blk_drewN ?_ _ | refine blk_drew ?_ | refine blk_alloc ?_ _)); exact BK221.out)⟩; have n2_ : Aside0 (Below w.heap.size w w11) := ⟨by rw [← hq_]; exact (by repeat (first | (with_reducible first | exact HB.out | apply below_alloc | apply pw_below_drewN | apply below_drew1 | refine below_set ?_ GE221.out) | exact HB.out))⟩; clear HO224 BK221 HB hq_; have HO224 := n0_; have BK221 := n1_; have HB := n2_; clear n0_ n1_ n2_))) | ((with_reducible refine gate_callee (f := 40) rfl ?_); refine goesL_ (some 23) rfl rfl Try.func40 (by kernel_rfl) rfl #[.slice Ao12 t222.length co12] rfl (by (try simp only [List.map_toArray, List.map_cons, List.map_nil]); first | done | rfl | (simp only [List.length_drop, List.length_take]; rfl)) ?_; (with_reducible refine (slices_Max_int_int.calls _ _ t222 t226 _ ?side1 ?side2 A7.out).mono ?_); (case side1 => repeat (first | exact (Kd.R_reads' HO224.out).2.2 | (with_reducible refine Kd.C_alloc ?_ _) | (with_reducible refine Kd.C_drewN ?_ _) | (with_reducible refine Kd.C_drew ?_))); (case side2 => exact (Kd.R_reads' HO224.out).2.1); rintro e w' ⟨rfl, ⟨nd, rfl⟩⟩; refine ⟨_, rfl, ?_⟩; (try (rw [drewN_self w11]; generalize hq_ : World.drewN w11 _ = w11; have n0_ : Aside0 (Kd.R (Kd.int .i64) 3 w11 w.heap.size (fun _ => True) (.slice Ao12 t222.length co12) t222) := ⟨by rw [← hq_]; exact (by (with_reducible repeat (first | apply Kd.R_alloc | apply Kd.R_drewN | apply Kd.R_drew)); exact HO224.out)⟩; have n1_ : Aside0 (w11.heap[gb221]? = some (.cells #[.int .i64 x222000_1, .int .i64 x222001_1, .int .i64 x222002_1] 46 (0, 0))) := ⟨by rw [← hq_]; exact (by (with_reducible repeat (first | refine blk_drewN ?_ _ | refine blk_drew ?_ | refine blk_alloc ?_ _)); exact BK221.out)⟩; have n2_ : Aside0 (Below w.heap.size w w11) := ⟨by rw [← hq_]; exact (by repeat (first | (with_reducible first | exact HB.out | apply below_alloc | apply pw_below_drewN | apply below_drew1 | refine below_set ?_ GE221.out) | exact HB.out))⟩; clear HO224 BK221 HB hq_; have HO224 := n0_; have BK221 := n1_; have HB := n2_; clear n0_ n1_ n2_))) | ((with_reducible refine gate_callee (f := 41) rfl ?_); refine goesL_ (some 31) rfl rfl Try.func41 (by kernel_rfl) rfl #[.slice Ao12 t222.length co12, .int .i64 t225] rfl (by (try simp only [List.map_toArray, List.map_cons, List.map_nil]); first | done | rfl | (simp only [List.length_drop, List.length_take]; rfl)) ?_; (with_reducible refine (slices_Index_int_int.calls k1 _ _ t222 t225 t227 _ ?side1 ?side2 A9.out).mono ?_); (case side1 => repeat (first | exact (Kd.R_reads' HO224.out).2.2 | (with_reducible refine Kd.C_alloc ?_ _) | (with_reducible refine Kd.C_drewN ?_ _) | (with_reducible refine Kd.C_drew ?_))); (case side2 => exact (Kd.R_reads' HO224.out).2.1); rintro e w' ⟨rfl, ⟨nd, rfl⟩⟩; refine ⟨_, rfl, ?_⟩; (try (rw [drewN_self w11]; generalize hq_ : World.drewN w11 _ = w11; have n0_ : Aside0 (Kd.R (Kd.int .i64) 3 w11 w.heap.size (fun _ => True) (.slice Ao12 t222.length co12) t222) := ⟨by rw [← hq_]; exact (by (with_reducible repeat (first | apply Kd.R_alloc | apply Kd.R_drewN | apply Kd.R_drew)); exact HO224.out)⟩; have n1_ : Aside0 (w11.heap[gb221]? = some (.cells #[.int .i64 x222000_1, .int .i64 x222001_1, .int .i64 x222002_1] 46 (0, 0))) := ⟨by rw [← hq_]; exact (by (with_reducible repeat (first | refine blk_drewN ?_ _ | refine blk_drew ?_ | refine blk_alloc ?_ _)); exact BK221.out)⟩; have n2_ : Aside0 (Below w.heap.size w w11) := ⟨by rw [← hq_]; exact (by repeat (first | (with_reducible first | exact HB.out | apply below_alloc | apply pw_below_drewN | apply below_drew1 | refine below_set ?_ GE221.out) | exact HB.out))⟩; clear HO224 BK221 HB hq_; have HO224 := n0_; have BK221 := n1_; have HB := n2_; clear n0_ n1_ n2_))) | ((with_reducible refine gate_callee (f := 41) rfl ?_); refine goesL_ (some 34) rfl rfl Try.func41 (by kernel_rfl) rfl #[.slice Ao12 t222.length co12, .int .i64 t226] rfl (by (try simp only [List.map_toArray, List.map_cons, List.map_nil]); first | done | rfl | (simp only [List.length_drop, List.length_take]; rfl)) ?_; (with_reducible refine (slices_Index_int_int.calls k1 _ _ t222 t226 t228 _ ?side1 ?side2 A10.out).mono ?_); (case side1 => repeat (first | exact (Kd.R_reads' HO224.out).2.2 | (with_reducible refine Kd.C_alloc ?_ _) | (with_reducible refine Kd.C_drewN ?_ _) | (with_reducible refine Kd.C_drew ?_))); (case side2 => exact (Kd.R_reads' HO224.out).2.1); rintro e w' ⟨rfl, ⟨nd, rfl⟩⟩; refine ⟨_, rfl, ?_⟩; (try (rw [drewN_self w11]; generalize hq_ : World.drewN w11 _ = w11; have n0_ : Aside0 (Kd.R (Kd.int .i64) 3 w11 w.heap.size (fun _ => True) (.slice Ao12 t222.length co12) t222) := ⟨by rw [← hq_]; exact (by (with_reducible repeat (first | apply Kd.R_alloc | apply Kd.R_drewN | apply Kd.R_drew)); exact HO224.out)⟩; have n1_ : Aside0 (w11.heap[gb221]? = some (.cells #[.int .i64 x222000_1, .int .i64 x222001_1, .int .i64 x222002_1] 46 (0, 0))) := ⟨by rw [← hq_]; exact (by (with_reducible repeat (first | refine blk_drewN ?_ _ | refine blk_drew ?_ | refine blk_alloc ?_ _)); exact BK221.out)⟩; have n2_ : Aside0 (Below w.heap.size w w11) := ⟨by rw [← hq_]; exact (by repeat (first | (with_reducible first | exact HB.out | apply below_alloc | apply pw_below_drewN | apply below_drew1 | refine below_set ?_ GE221.out) | exact HB.out))⟩; clear HO224 BK221 HB hq_; have HO224 := n0_; have BK221 := n1_; have HB := n2_; clear n0_ n1_ n2_)); have hcz13_0 : w11.cell? ⟨gb221, 0, none⟩ = some (.int .i64 x222000_1) := (blk_cell BK221.out 0).trans rfl; have hcz13_1 : w11.cell? ⟨gb221, 1, none⟩ = some (.int .i64 x222001_1) := (blk_cell BK221.out 1).trans rfl; have hcz13_2 : w11.cell? ⟨gb221, 2, none⟩ = some (.int .i64 x222002_1) := (blk_cell BK221.out 2).trans rfl; have hfz13_0 := blk_frozen BK221.out 0; have hfz13_1 := blk_frozen BK221.out 1; have hfz13_2 := blk_frozen BK221.out 2))
          refine bodyPost_ret (results_tc rfl _ _ gb221 46 #[.int .i64 x6_1, .int .i64 t227, .int .i64 t228] (0, 0) _ rfl (by (with_reducible repeat (first | refine blk_drewN ?_ _ | refine blk_drew ?_ | refine blk_alloc ?_ _)); refine blk_put (cs := #[.int .i64 x6_1, .int .i64 t227, .int .i64 x222002_1]) ?_ 2 _ rfl; (with_reducible repeat (first | refine blk_drewN ?_ _ | refine blk_drew ?_ | refine blk_alloc ?_ _)); refine blk_put (cs := #[.int .i64 x6_1, .int .i64 x222001_1, .int .i64 x222002_1]) ?_ 1 _ rfl; (with_reducible repeat (first | refine blk_drewN ?_ _ | refine blk_drew ?_ | refine blk_alloc ?_ _)); refine blk_put (cs := #[.int .i64 x222000_1, .int .i64 x222001_1, .int .i64 x222002_1]) ?_ 0 _ rfl; (with_reducible repeat (first | refine blk_drewN ?_ _ | refine blk_drew ?_ | refine blk_alloc ?_ _)); exact BK221.out) Try.underlying46 rfl (by kernel_rfl)) rfl ?_
          exact ⟨by first | rfl | (simp [errW_none, errW_some] <;> rfl) | (simp [*, errW_none, errW_some] <;> rfl), by repeat (first | (with_reducible first | exact HB.out | apply below_alloc | apply pw_below_drewN | apply below_drew1 | refine below_set ?_ GE221.out) | exact HB.out)⟩
        · rw [if_neg c8] at H
          have c8b0 : decide (1 < (wrap64 (t226 - t225))) = false := decide_eq_false c8
          clear c8
          have H' := Aside0.mk H
          clear H
          go_wp2_with (first | ((with_reducible refine gate_callee (f := 30) rfl ?_); refine goesL_ (some 19) rfl rfl Try.func30 (by kernel_rfl) rfl #[.int .i64 a0, .slice A1 l1.length c1, .int .i64 x6_1] rfl (by (try simp only [List.map_toArray, List.map_cons, List.map_nil]); first | done | rfl | (simp only [List.length_drop, List.length_take]; rfl)) ?_; (with_reducible refine (schismalaw35_sizes.calls k1 a0 _ _ l1 x6_1 t222 _ ?side1 ?side2 A5.out).mono ?_); (case side1 => repeat (first | exact (Kd.C_below HR1.out HB.out) | (with_reducible refine Kd.C_alloc ?_ _) | (with_reducible refine Kd.C_drewN ?_ _) | (with_reducible refine Kd.C_drew ?_))); (case side2 => exact HC1.out); rintro e w14 ⟨v223, rfl, ho0, hb⟩; refine ⟨_, rfl, ?_⟩; have n0_ := Aside0.mk (Kd.R_lower ho0 (below_size (by repeat (first | (with_reducible first | exact HB.out | apply below_alloc | apply pw_below_drewN | apply below_drew1 | refine below_set ?_ GE221.out) | exact HB.out)))); have n1_ := Aside0.mk (blk_below (g := gb221) (o := .cells #[.int .i64 x222000_1, .int .i64 x222001_1, .int .i64 x222002_1] 46 (0, 0)) (by (with_reducible repeat (first | refine blk_drewN ?_ _ | refine blk_drew ?_ | refine blk_alloc ?_ _)); exact BK221.out) hb); have n2_ := Aside0.mk (below_step (by repeat (first | (with_reducible first | exact HB.out | apply below_alloc | apply pw_below_drewN | apply below_drew1 | refine below_set ?_ GE221.out) | exact HB.out)) hb); clear BK221; clear HB; have HO224 := n0_; have BK221 := n1_; have HB := n2_; clear n0_ n1_ n2_; (try clear hb); (try clear hb2); (try clear hk); (try clear hi); (try clear ho0); obtain ⟨Ao15, co15, eo15⟩ := Kd.R_slice HO224.out; subst eo15) | ((with_reducible refine gate_callee (f := 39) rfl ?_); refine goesL_ (some 21) rfl rfl Try.func39 (by kernel_rfl) rfl #[.slice Ao15 t222.length co15] rfl (by (try simp only [List.map_toArray, List.map_cons, List.map_nil]); first | done | rfl | (simp only [List.length_drop, List.length_take]; rfl)) ?_; (with_reducible refine (slices_Min_int_int.calls _ _ t222 t225 _ ?side1 ?side2 A6.out).mono ?_); (case side1 => repeat (first | exact (Kd.R_reads' HO224.out).2.2 | (with_reducible refine Kd.C_alloc ?_ _) | (with_reducible refine Kd.C_drewN ?_ _) | (with_reducible refine Kd.C_drew ?_))); (case side2 => exact (Kd.R_reads' HO224.out).2.1); rintro e w' ⟨rfl, ⟨nd, rfl⟩⟩; refine ⟨_, rfl, ?_⟩) | ((with_reducible refine gate_callee (f := 40) rfl ?_); refine goesL_ (some 23) rfl rfl Try.func40 (by kernel_rfl) rfl #[.slice Ao15 t222.length co15] rfl (by (try simp only [List.map_toArray, List.map_cons, List.map_nil]); first | done | rfl | (simp only [List.length_drop, List.length_take]; rfl)) ?_; (with_reducible refine (slices_Max_int_int.calls _ _ t222 t226 _ ?side1 ?side2 A7.out).mono ?_); (case side1 => repeat (first | exact (Kd.R_reads' HO224.out).2.2 | (with_reducible refine Kd.C_alloc ?_ _) | (with_reducible refine Kd.C_drewN ?_ _) | (with_reducible refine Kd.C_drew ?_))); (case side2 => exact (Kd.R_reads' HO224.out).2.1); rintro e w' ⟨rfl, ⟨nd, rfl⟩⟩; refine ⟨_, rfl, ?_⟩))
          go_roundg k1
          case measure => have := HK1.out; omega
          case rel => exact ⟨(wrap64 (x6_1 + 1)), (x222000_1), (x222001_1), (x222002_1), (by first | rfl | (simp; done) | (simp [*]; done)), H', ⟨by have := HK1.out; omega⟩, ⟨by (with_reducible repeat (first | refine blk_drewN ?_ _ | refine blk_drew ?_ | refine blk_alloc ?_ _)); exact BK221.out⟩, ⟨by repeat (first | (with_reducible first | exact HB.out | apply below_alloc | apply pw_below_drewN | apply below_drew1 | refine below_set ?_ GE221.out) | exact HB.out)⟩⟩
      · rw [if_neg c4] at H
        have c4b0 : decide (x6_1 < (l1.length : Int)) = false := decide_eq_false c4
        clear c4
        simp only [Option.some.injEq, Prod.mk.injEq] at H
        obtain ⟨rfl, rfl, rfl, rfl⟩ := H
        have hcz16_0 : wr.cell? ⟨gb221, 0, none⟩ = some (.int .i64 x222000_1) := (blk_cell BK221.out 0).trans rfl
        have hcz16_1 : wr.cell? ⟨gb221, 1, none⟩ = some (.int .i64 x222001_1) := (blk_cell BK221.out 1).trans rfl
        have hcz16_2 : wr.cell? ⟨gb221, 2, none⟩ = some (.int .i64 x222002_1) := (blk_cell BK221.out 2).trans rfl
        have hfz16_0 := blk_frozen BK221.out 0
        have hfz16_1 := blk_frozen BK221.out 1
        have hfz16_2 := blk_frozen BK221.out 2
        go_wp2
        refine bodyPost_ret (results_tc rfl _ _ gb221 46 #[.int .i64 0, .int .i64 0, .int .i64 0] (0, 0) _ rfl (by (with_reducible repeat (first | refine blk_drewN ?_ _ | refine blk_drew ?_ | refine blk_alloc ?_ _)); refine blk_put (cs := #[.int .i64 0, .int .i64 0, .int .i64 x222002_1]) ?_ 2 _ rfl; (with_reducible repeat (first | refine blk_drewN ?_ _ | refine blk_drew ?_ | refine blk_alloc ?_ _)); refine blk_put (cs := #[.int .i64 0, .int .i64 x222001_1, .int .i64 x222002_1]) ?_ 1 _ rfl; (with_reducible repeat (first | refine blk_drewN ?_ _ | refine blk_drew ?_ | refine blk_alloc ?_ _)); refine blk_put (cs := #[.int .i64 x222000_1, .int .i64 x222001_1, .int .i64 x222002_1]) ?_ 0 _ rfl; (with_reducible repeat (first | refine blk_drewN ?_ _ | refine blk_drew ?_ | refine blk_alloc ?_ _)); exact BK221.out) Try.underlying46 rfl (by kernel_rfl)) rfl ?_
        exact ⟨by first | rfl | (simp [errW_none, errW_some] <;> rfl) | (simp [*, errW_none, errW_some] <;> rfl), by repeat (first | (with_reducible first | exact HB.out | apply below_alloc | apply pw_below_drewN | apply below_drew1 | refine below_set ?_ GE221.out) | exact HB.out)⟩

end Go.Proofs.Ytdbleoijefihhaa.PEv
