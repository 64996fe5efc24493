/- evenness.moved with any change of a note; Transpose and Inverse, in the form that the printed callers use. -/
import Derived.Test.YtdbleoijefihhaaHa
import Derived.IntWalk
namespace Go.Proofs.Ytdbleoijefihhaa.PEv
open Go.RowKit Go.Proofs.YtdbleoijefihhaaW.PrintWords Go.Proofs.YtdbleoijefihhaaW.PrintLast Go.Proofs.YtdbleoijefihhaaW.PrintMore
set_option linter.unusedVariables false
set_option linter.unusedSimpArgs false

set_option maxHeartbeats 8000000 in
set_option maxRecDepth 100000 in
theorem moved_any (n : Int) (hn : n ≠ 0) (A1 : Option Addr) (c1 : Nat) (l1 : List Int) (g : Nat) (cb : Array Value) (cf : Int → Int) (eg : ∀ args w, (callFunc g args).run Try.prog w = .ok (.enter g args) w) (w : World)
    (hcall : ∀ W, Below w.heap.size w W → ∀ x, Calls Try.prog g (#[.int .i64 x] ++ cb) W fun e w' => e = .returned (.int .i64 (cf x)) ∧ ∃ q, w' = W.drewN q)
    (hr1 : Kd.C (Kd.int .i64) w A1 l1.length l1) (hlen : l1.length < 4611686018427) :
    Calls Try.prog 49 #[.int .i64 n, .slice A1 l1.length c1, .func (.func g) #[] cb] w fun e w' => ∃ v0_ : Value, e = .returned v0_ ∧ Kd.R (Kd.int .i64) 3 w' w.heap.size (fun _ => True) v0_ (isort (l1.map fun x => movedBy n (cf x))) ∧ Below w.heap.size w w' := by
  have HR1 := Aside0.mk hr1
  have HL := Aside0.mk hlen
  have HC := Aside0.mk hcall
  clear hr1 hlen hcall
  have HB := Aside0.mk (Below.refl w.heap.size w)
  have c7b0 : (n == 0) = false := beq_eq_false_iff_ne.mpr hn
  have c7b1 : (n != 0) = true := bne_iff_ne.mpr hn
  go_enter Try.func49, Try.ntmps49
  go_wp2
  go_loopg [7, 13] l1.length (fun gg v7 v13 w' => ∃ (i : Nat), i ≤ l1.length ∧ l1.length - i ≤ gg ∧ v13 = .int .i64 (i : Int) ∧ Aside0 (Kd.R (Kd.int .i64) 3 w' w.heap.size (fun _ => True) v7 ((l1.take i).map fun x => movedBy n (cf x))) ∧ Aside0 (Below w.heap.size w w'))
  case atStart => exact ⟨0, Nat.zero_le _, by omega, rfl, ⟨Kd.R_nil _ _ _ _ _⟩, HB⟩
  case round =>
    obtain ⟨i, hi, hg, rfl, HO_7, HB⟩ := hrel
    by_cases hlt : i < l1.length
    · have hltz : (i : Int) < (l1.length : Int) := by omega
      have HLT := Aside0.mk hlt
      have hl := HL.out
      obtain ⟨y, hy⟩ : ∃ y, y = (l1.take i).map fun x => movedBy n (cf x) := ⟨_, rfl⟩
      rw [← hy] at HO_7
      have hyl : y.length = i := by rw [hy]; simp; omega
      obtain ⟨x, hx⟩ : ∃ x, x = rd l1 (i : Int) := ⟨_, rfl⟩
      obtain ⟨ad354, e354, hx354_0⟩ := Kd.at_int HR1.out (i : Int) (by omega) (by omega)
      cases e354
      replace hx354_0 := (HB.out.cell (World.block_lt_of_cell? w _ hx354_0)).trans hx354_0
      rw [← hx, Int.toNat_natCast] at hx354_0
      have hcx := HC.out _ HB.out x
      obtain ⟨z, hz⟩ : ∃ z, z = cf x := ⟨_, rfl⟩
      rw [← hz] at hcx
      have hstep : (l1.take (i + 1)).map (fun x => movedBy n (cf x)) = y ++ [movedBy n z] := by
        rw [List.take_succ_eq_append_getElem hlt, List.map_append, ← hy]
        have : l1[i] = x := by rw [hx]; simp [rd, hlt]
        simp [this, hz]
      have HS := Aside0.mk hstep
      have LM : Aside0 (y.length < 17592186044416) := ⟨by omega⟩
      have p354 : (0 : Int) ≤ (i : Int) := by omega
      clear hstep hy hz hx hl hyl
      by_cases hneg : Int.tmod z n < 0
      · have hb0 : decide (Int.tmod z n < 0) = true := decide_eq_true hneg
        have hm : movedBy n z = wrap64 (Int.tmod z n + n) := by unfold movedBy; rw [if_pos hneg]
        rw [hm] at HS
        clear hneg hm
        go_wp2_with (first
          | (go_at_fn g; refine hcx.mono ?_; rintro e w' ⟨rfl, q', rfl⟩)
          | ((with_reducible refine gate_builtin (b := .append) (xs := #[.tmp 27, .tmp 29]) rfl ?_); at_builtin; refine Kd.R_append (Kd.int .i64) (w0 := w) w.heap.size rfl (.tmp 27) (.tmp 29) 23 3 (.int .i64 0) 8 rfl Try.underlying23 info3 rfl (by decide) (by omega) _ y (wrap64 (Int.tmod z n + n)) [.int .i64 (wrap64 (Int.tmod z n + n))] (fun _ => True) (fun _ => False) rfl rfl ?aP (fun _ hk => hk.elim) ?aF ?aO ?aB ?aS ?aL ?_; (case aP => exact rfl); (case aB => exact (by repeat (first | (with_reducible first | exact HB.out | apply below_alloc | apply pw_below_drewN | apply below_drew1) | exact HB.out))); (case aF => exact (fun _ _ => trivial)); (case aO => exact (by (with_reducible repeat (first | apply Kd.R_alloc | apply Kd.R_drewN | apply Kd.R_drew)); exact HO_7.out)); (case aS => exact (below_size (by repeat (first | (with_reducible first | exact HB.out | apply below_alloc | apply pw_below_drewN | apply below_drew1) | exact HB.out)))); (case aL => have := LM.out; omega); intro v356 w9 ho hb hg hat; rw [← HS.out] at ho; have n0_ := Aside0.mk (hb); have n1_ := Aside0.mk (ho); clear HB; clear HO_7; have HB := n0_; have HO357 := n1_; clear n0_ n1_; clear ho hb hg hat))
        go_roundg (l1.length - (i + 1))
        case measure => have := HLT.out; omega
        case rel => exact ⟨i + 1, by have := HLT.out; omega, Nat.le_refl _, by first | go_num | (have h1 := HL.out; have h2 := HLT.out; congr 1; unfold wrap64; omega) | (trace_state; fail), HO357, HB⟩
      · have hb0 : decide (Int.tmod z n < 0) = false := decide_eq_false hneg
        have hm : movedBy n z = Int.tmod z n := by unfold movedBy; rw [if_neg hneg]
        rw [hm] at HS
        clear hneg hm
        go_wp2_with (first
          | (go_at_fn g; refine hcx.mono ?_; rintro e w' ⟨rfl, q', rfl⟩)
          | ((with_reducible refine gate_builtin (b := .append) (xs := #[.tmp 27, .tmp 29]) rfl ?_); at_builtin; refine Kd.R_append (Kd.int .i64) (w0 := w) w.heap.size rfl (.tmp 27) (.tmp 29) 23 3 (.int .i64 0) 8 rfl Try.underlying23 info3 rfl (by decide) (by omega) _ y (Int.tmod z n) [.int .i64 (Int.tmod z n)] (fun _ => True) (fun _ => False) rfl rfl ?aP (fun _ hk => hk.elim) ?aF ?aO ?aB ?aS ?aL ?_; (case aP => exact rfl); (case aB => exact (by repeat (first | (with_reducible first | exact HB.out | apply below_alloc | apply pw_below_drewN | apply below_drew1) | exact HB.out))); (case aF => exact (fun _ _ => trivial)); (case aO => exact (by (with_reducible repeat (first | apply Kd.R_alloc | apply Kd.R_drewN | apply Kd.R_drew)); exact HO_7.out)); (case aS => exact (below_size (by repeat (first | (with_reducible first | exact HB.out | apply below_alloc | apply pw_below_drewN | apply below_drew1) | exact HB.out)))); (case aL => have := LM.out; omega); intro v356 w9 ho hb hg hat; rw [← HS.out] at ho; have n0_ := Aside0.mk (hb); have n1_ := Aside0.mk (ho); clear HB; clear HO_7; have HB := n0_; have HO357 := n1_; clear n0_ n1_; clear ho hb hg hat))
        go_roundg (l1.length - (i + 1))
        case measure => have := HLT.out; omega
        case rel => exact ⟨i + 1, by have := HLT.out; omega, Nat.le_refl _, by first | go_num | (have h1 := HL.out; have h2 := HLT.out; congr 1; unfold wrap64; omega) | (trace_state; fail), HO357, HB⟩
    · have hltz : ¬ (i : Int) < (l1.length : Int) := by omega
      obtain rfl : i = l1.length := by omega
      rw [List.take_length] at HO_7
      obtain ⟨y, hy⟩ : ∃ y, y = l1.map fun x => movedBy n (cf x) := ⟨_, rfl⟩
      rw [← hy] at HO_7
      have hyl : y.length < 4611686018427387904 := by rw [hy]; have := HL.out; simp; omega
      have HF : Aside0 (slices_Sort_int_int.f y = some (isort y)) := ⟨by unfold slices_Sort_int_int.f; rw [if_pos hyl]⟩
      have HY := Aside0.mk hy
      clear hy hyl
      obtain ⟨Ao11, co11, eo11⟩ := Kd.R_slice HO_7.out
      subst eo11
      go_wp2_with (first | ((with_reducible refine gate_callee (f := 31) rfl ?_); refine goesL_ (some 33) rfl rfl Try.func31 (by kernel_rfl) rfl #[.slice Ao11 y.length co11] rfl (by (try simp only [List.map_toArray, List.map_cons, List.map_nil]); first | done | rfl | (simp only [List.length_drop, List.length_take]; rfl)) ?_; (with_reducible refine (slices_Sort_int_int.calls (fun k_ => some k_ = (.slice Ao11 y.length co11 : Value).ownBlock) (.slice Ao11 y.length co11) y (isort y) w _ ?side1 ?side2 HF.out).mono ?_); (case side1 => repeat (first | (with_reducible first | exact HB.out | apply below_alloc | apply pw_below_drewN | apply below_drew1) | exact HB.out)); (case side2 => exact Kd.R_tight rfl HO_7.out); rintro e w12 ⟨rfl, hy0, hb, hkp⟩; refine ⟨_, rfl, ?_⟩; have n0_ := Aside0.mk (Kd.R_reok rfl hy0 (fun k_ e_ => HO_7.out.1 k_ e_)); have n1_ := Aside0.mk (hb); clear HO_7; clear HB; have HO_7 := n0_; have HB := n1_; clear n0_ n1_; (try clear hb); (try clear hkp); (try clear hy0)))
      go_ret
      rw [← HY.out]
      exact ⟨_, by first | rfl | (simp [errW_none, errW_some] <;> rfl) | (simp [*, errW_none, errW_some] <;> rfl), by (with_reducible repeat (first | apply Kd.R_alloc | apply Kd.R_drewN | apply Kd.R_drew)); exact HO_7.out, by repeat (first | (with_reducible first | exact HB.out | apply below_alloc | apply pw_below_drewN | apply below_drew1) | exact HB.out)⟩

/-- The closures' own contracts. -/
theorem closure52 (B : Nat) (m : Int) (w : World) (hB : B < w.heap.size) (hc : w.cell? ⟨B, 0, none⟩ = some (.int .i64 m)) :
    ∀ W, Below w.heap.size w W → ∀ x, Calls Try.prog 52 (#[.int .i64 x] ++ #[.pointer (some ⟨B, 0, none⟩)]) W fun e w' => e = .returned (.int .i64 (wrap64 (x + m))) ∧ ∃ q, w' = W.drewN q := by
  intro W hb x
  have hc' := (hb.cell (p := ⟨B, 0, none⟩) hB).trans hc
  show Calls Try.prog 52 #[.int .i64 x, .pointer (some ⟨B, 0, none⟩)] W _
  go_enter Try.func52, Try.ntmps52
  go_wp2
  go_ret
  exact ⟨rfl, 0, rfl⟩
theorem closure50 (B : Nat) (m : Int) (w : World) (hB : B < w.heap.size) (hc : w.cell? ⟨B, 0, none⟩ = some (.int .i64 m)) :
    ∀ W, Below w.heap.size w W → ∀ x, Calls Try.prog 50 (#[.int .i64 x] ++ #[.pointer (some ⟨B, 0, none⟩)]) W fun e w' => e = .returned (.int .i64 (wrap64 (x + m))) ∧ ∃ q, w' = W.drewN q := by
  intro W hb x
  have hc' := (hb.cell (p := ⟨B, 0, none⟩) hB).trans hc
  show Calls Try.prog 50 #[.int .i64 x, .pointer (some ⟨B, 0, none⟩)] W _
  go_enter Try.func50, Try.ntmps50
  go_wp2
  go_ret
  exact ⟨rfl, 0, rfl⟩
theorem closure51 (w : World) :
    ∀ W, Below w.heap.size w W → ∀ x, Calls Try.prog 51 (#[.int .i64 x] ++ #[]) W fun e w' => e = .returned (.int .i64 (wrap64 (-x))) ∧ ∃ q, w' = W.drewN q := by
  intro W hb x
  show Calls Try.prog 51 #[.int .i64 x] W _
  go_enter Try.func51, Try.ntmps51
  go_wp2
  go_ret
  exact ⟨rfl, 0, rfl⟩

set_option maxHeartbeats 8000000 in
set_option maxRecDepth 100000 in
theorem evenness_Inverse.calls (k : Nat) (a0 : Int) (A1 : Option Addr) (c1 : Nat) (l1 : List Int) (r1 : List Int) (r2 : Int) (w : World) (hr1 : Kd.C (Kd.int .i64) w A1 l1.length l1) (hc1 : l1.length ≤ c1) (h : evenness_Inverse.f k a0 l1 = some (r1, r2)) :
    Calls Try.prog 24 #[.int .i64 a0, .slice A1 l1.length c1] w fun e w' => ∃ v0_ : Value, e = .returned (.tuple #[v0_, .int .i64 r2]) ∧ Kd.R (Kd.int .i64) 3 w' w.heap.size (fun _ => True) v0_ r1 ∧ Below w.heap.size w w' := by
  obtain ⟨t, ht, h⟩ := Option.bind_eq_some_iff.mp h
  have HR1 := Aside0.mk hr1
  have HC1 := Aside0.mk hc1
  have HT := Aside0.mk ht
  clear hr1 hc1 ht
  have eg : ∀ args w, (callFunc 51 args).run Try.prog w = .ok (.enter 51 args) w := enters_of Try.func51 (by kernel_rfl) rfl
  by_cases c0 : t = 0
  · subst c0
    rw [if_pos rfl] at h
    split at h
    case isFalse => cases h
    split at h
    case isFalse => cases h
    split at h
    case isFalse => cases h
    rename_i b1 b2 b3
    have h' := Option.some.inj h
    obtain ⟨rfl, rfl⟩ := Prod.mk.inj h'
    clear h h'
    have HL := Aside0.mk b3
    have HN := Aside0.mk b1
    clear b1 b2 b3
    go_enter Try.func24, Try.ntmps24
    go_wp2_with (first
      | (go_at_call 37; (with_reducible refine (evenness_Check.calls k a0 _ _ l1 0 _ HR1.out HC1.out HT.out).mono ?_); rintro e w' ⟨rfl, ⟨nd, rfl⟩⟩)
      | (go_at_call 49; (with_reducible refine (moved_any a0 (by have := HN.out; omega) A1 c1 l1 51 #[] (fun x => wrap64 (-x)) eg _ (closure51 _) ?hr HL.out).mono ?_); (case hr => exact (by (with_reducible repeat (first | apply Kd.C_alloc | apply Kd.C_drewN | apply Kd.C_drew)); exact HR1.out)); rintro e w2 ⟨v0, rfl, ho, hb⟩))
    go_ret2
    exact ⟨v0, rfl, ho, Below.trans (pw_below_drewN (Below.refl _ _) nd) hb⟩
  · rw [if_neg c0] at h
    have h' := Option.some.inj h
    obtain ⟨rfl, rfl⟩ := Prod.mk.inj h'
    clear h h'
    have c0b : (t == 0) = false := beq_eq_false_iff_ne.mpr c0
    have c1b : (t != 0) = true := bne_iff_ne.mpr c0
    go_enter Try.func24, Try.ntmps24
    go_wp2_with (first
      | (go_at_call 37; (with_reducible refine (evenness_Check.calls k a0 _ _ l1 t _ HR1.out HC1.out HT.out).mono ?_); rintro e w' ⟨rfl, ⟨nd, rfl⟩⟩))
    go_ret2
    exact ⟨_, rfl, Kd.R_nil _ _ _ _ _, by repeat (first | exact Below.refl _ _ | apply below_alloc | apply pw_below_drewN | apply below_drew1)⟩
theorem cell_box (w : World) (u : Value) (nd : Nat) (v : Value) : (((w.alloc (.cells #[u] 3)).drewN nd).setCell ⟨w.heap.size, 0, none⟩ v).cell? ⟨w.heap.size, 0, none⟩ = some v :=
  World.cell?_setCell_same _ _ _ (show ((w.alloc (.cells #[u] 3)).drewN nd).cell? ⟨w.heap.size, 0, none⟩ = some u by simp)
theorem below_box (w : World) (o : Obj) (nd : Nat) (v : Value) : Below w.heap.size w (((w.alloc o).drewN nd).setCell ⟨w.heap.size, 0, none⟩ v) :=
  Below.setCell (pw_below_drewN (below_alloc (Below.refl _ _) o) nd) (by simp) _

set_option maxHeartbeats 8000000 in
set_option maxRecDepth 100000 in
theorem evenness_Transpose.calls (k : Nat) (a0 : Int) (A1 : Option Addr) (c1 : Nat) (l1 : List Int) (a2 : Int) (r1 : List Int) (r2 : Int) (w : World) (hr1 : Kd.C (Kd.int .i64) w A1 l1.length l1) (hc1 : l1.length ≤ c1) (h : evenness_Transpose.f k a0 l1 a2 = some (r1, r2)) :
    Calls Try.prog 23 #[.int .i64 a0, .slice A1 l1.length c1, .int .i64 a2] w fun e w' => ∃ v0_ : Value, e = .returned (.tuple #[v0_, .int .i64 r2]) ∧ Kd.R (Kd.int .i64) 3 w' w.heap.size (fun _ => True) v0_ r1 ∧ Below w.heap.size w w' := by
  obtain ⟨t, ht, h⟩ := Option.bind_eq_some_iff.mp h
  have HR1 := Aside0.mk hr1
  have HC1 := Aside0.mk hc1
  have HT := Aside0.mk ht
  clear hr1 hc1 ht
  have eg : ∀ args w, (callFunc 50 args).run Try.prog w = .ok (.enter 50 args) w := enters_of Try.func50 (by kernel_rfl) rfl
  by_cases c0 : t = 0
  · subst c0
    rw [if_pos rfl] at h
    split at h
    case isFalse => cases h
    split at h
    case isFalse => cases h
    split at h
    case isFalse => cases h
    rename_i b1 b2 b3
    have h' := Option.some.inj h
    obtain ⟨rfl, rfl⟩ := Prod.mk.inj h'
    clear h h'
    have HL := Aside0.mk b3
    have HN := Aside0.mk b1
    have hn0 : a0 ≠ 0 := by omega
    have cz0 : (a0 == 0) = false := beq_eq_false_iff_ne.mpr (by omega)
    have cz1 : (a0 != 0) = true := bne_iff_ne.mpr (by omega)
    clear b1 b2 b3
    go_enter Try.func23, Try.ntmps23
    go_wp2_with (first
      | (go_at_call 37; (with_reducible refine (evenness_Check.calls k a0 _ _ l1 0 _ (by (with_reducible repeat (first | apply Kd.C_alloc | apply Kd.C_drewN | apply Kd.C_drew)); exact HR1.out) HC1.out HT.out).mono ?_); rintro e w' ⟨rfl, ⟨nd, rfl⟩⟩)
      | (go_at_call 49; (refine (moved_any a0 (by have := HN.out; omega) A1 c1 l1 50 #[.pointer (some ⟨w.heap.size, 0, none⟩)] (fun x => wrap64 (x + Int.tmod a2 a0)) eg _ (closure50 w.heap.size (Int.tmod a2 a0) _ (by simp) (cell_box _ _ _ _)) ?hr HL.out).mono ?_); (case hr => exact Kd.C_below HR1.out (below_box _ _ _ _)); rintro e w2 ⟨v0, rfl, ho, hb⟩))
    go_ret2
    exact ⟨v0, rfl, Kd.R_lower ho (by simp), Below.trans (below_box _ _ _ _) (hb.mono (by simp))⟩
  · rw [if_neg c0] at h
    have h' := Option.some.inj h
    obtain ⟨rfl, rfl⟩ := Prod.mk.inj h'
    clear h h'
    have c0b : (t == 0) = false := beq_eq_false_iff_ne.mpr c0
    have c1b : (t != 0) = true := bne_iff_ne.mpr c0
    go_enter Try.func23, Try.ntmps23
    go_wp2_with (first
      | (go_at_call 37; (with_reducible refine (evenness_Check.calls k a0 _ _ l1 t _ (by (with_reducible repeat (first | apply Kd.C_alloc | apply Kd.C_drewN | apply Kd.C_drew)); exact HR1.out) HC1.out HT.out).mono ?_); rintro e w' ⟨rfl, ⟨nd, rfl⟩⟩))
    go_ret2
    exact ⟨_, rfl, Kd.R_nil _ _ _ _ _, by repeat (first | exact Below.refl _ _ | apply below_alloc | apply pw_below_drewN | apply below_drew1)⟩
end Go.Proofs.Ytdbleoijefihhaa.PEv
