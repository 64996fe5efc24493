/- evenness.Rotations and the model's distinct, in the form that the printed callers use. -/
import Derived.Test.YtdbleoijefihhaaHg
import Derived.Test.YtdbleoijefihhaaHb
namespace Go.Proofs.Ytdbleoijefihhaa.PEv
open Go.RowKit Go.Proofs.YtdbleoijefihhaaW.PrintWords Go.Proofs.YtdbleoijefihhaaW.PrintLast Go.Proofs.YtdbleoijefihhaaW.PrintMore
set_option linter.unusedVariables false
set_option linter.unusedSimpArgs false
open Go.Shelf Go.Lib Go.Sort

set_option maxHeartbeats 2000000 in
theorem compactFunc_none (p : Option Addr) (cap : Nat) (fv : Value) (w : World) : Calls Try.prog 47 #[.slice p 0 cap, fv] w fun e w' => e = .returned (.slice p 0 cap) ∧ w' = w := by
  go_enter Try.func47, Try.ntmps47
  go_wp2
  go_ret
  exact ⟨rfl, rfl⟩
theorem sortFunc_none (p : Option Addr) (cap : Nat) (fv : Value) (w : World) : Calls Try.prog 44 #[.slice p 0 cap, fv] w fun e w' => e = .returned (.tuple #[]) ∧ w' = w :=
  AnyF.slices_SortFunc_none (P := Try.prog) (ρ := Try.laysSF_ren) { Try.laysSF with } p cap fv w

theorem sort_any {w : World} {base : Nat} {ok : Nat → Prop} {v : Value} {xs : List (List Int)} (h : Kd.R (Kd.slice 3 (Kd.int .i64)) 23 w base ok v xs) (f : Nat) (hf : CmpOf f)
    (eg : ∀ args w, (callFunc f args).run Try.prog w = .ok (.enter f args) w) (hn : xs.length < 4611686018427387904) :
    Calls Try.prog 44 #[v, .func (.func f) #[] #[]] w fun e w' => e = .returned (.tuple #[]) ∧ Kd.R (Kd.slice 3 (Kd.int .i64)) 23 w' base ok v (lsort xs) ∧ w.grownBy w' v.ownBlock := by
  rcases rowOf_of_R h with ⟨rfl, rfl⟩ | ⟨g, cap, cur, inner, rfl, hr⟩
  · refine (sortFunc_none _ _ _ _).mono ?_
    rintro e w' ⟨rfl, rfl⟩
    exact ⟨rfl, Kd.R_nil _ _ _ _ _, rfl, rfl, rfl, Nat.le_refl _, fun _ _ _ => rfl⟩
  · refine (sort_row hr f hf eg hn).mono ?_
    rintro e w' ⟨rfl, i', c', hr', hg⟩
    refine ⟨rfl, ?_, hg⟩
    have := R_of_rowOf hr'
    rwa [lsort_length] at this
theorem compact_any {w : World} {base : Nat} {ok : Nat → Prop} {v : Value} {xs : List (List Int)} (h : Kd.R (Kd.slice 3 (Kd.int .i64)) 23 w base ok v xs) (f : Nat) (hf : EqOf f)
    (eg : ∀ args w, (callFunc f args).run Try.prog w = .ok (.enter f args) w) (hn : xs.length < 4611686018427387904) :
    Calls Try.prog 47 #[v, .func (.func f) #[] #[]] w fun e w' => ∃ v0, e = .returned v0 ∧ Kd.R (Kd.slice 3 (Kd.int .i64)) 23 w' base ok v0 (dedup xs) ∧ w.grownBy w' v.ownBlock := by
  rcases rowOf_of_R h with ⟨rfl, rfl⟩ | ⟨g, cap, cur, inner, rfl, hr⟩
  · refine (compactFunc_none _ _ _ _).mono ?_
    rintro e w' ⟨rfl, rfl⟩
    exact ⟨_, rfl, Kd.R_nil _ _ _ _ _, rfl, rfl, rfl, Nat.le_refl _, fun _ _ _ => rfl⟩
  · refine (compact_row hr f hf eg hn).mono ?_
    rintro e w' ⟨rfl, i', c', hr', hg⟩
    exact ⟨_, rfl, R_of_rowOf hr', hg⟩

set_option maxHeartbeats 2000000 in
theorem schismalaw35_distinct.calls (ok0 : Nat → Prop) (u9000_ : Value) (l0 r : List (List Int)) (w0 w : World) (hB : Below w0.heap.size w0 w) (ho0 : Kd.R (Kd.slice 3 (Kd.int .i64)) 23 w w0.heap.size ok0 u9000_ l0) (h : schismalaw35_distinct.f l0 = some r) :
    Calls Try.prog 22 #[u9000_] w fun e w' => ∃ v0_ : Value, e = .returned v0_ ∧ Kd.R (Kd.slice 3 (Kd.int .i64)) 23 w' w0.heap.size (fun k_ => (ok0 k_ ∨ w.heap.size ≤ k_)) v0_ r ∧ Below w0.heap.size w0 w' ∧ Kept w w' (fun k_ => some k_ = u9000_.ownBlock) := by
  unfold schismalaw35_distinct.f at h
  split at h
  case isFalse => cases h
  rename_i hlen
  obtain rfl := Option.some.inj h
  have e45 : ∀ args w, (callFunc 45 args).run Try.prog w = .ok (.enter 45 args) w := enters_of Try.func45 (by kernel_rfl) rfl
  have e48 : ∀ args w, (callFunc 48 args).run Try.prog w = .ok (.enter 48 args) w := enters_of Try.func48 (by kernel_rfl) rfl
  have hs := sort_any ho0 45 cmp45 e45 hlen
  have hc : ∀ W, Kd.R (Kd.slice 3 (Kd.int .i64)) 23 W w0.heap.size ok0 u9000_ (lsort l0) → Calls Try.prog 47 #[u9000_, .func (.func 48) #[] #[]] W fun e w' => ∃ v0, e = .returned v0 ∧ Kd.R (Kd.slice 3 (Kd.int .i64)) 23 w' w0.heap.size ok0 v0 (dedup (lsort l0)) ∧ W.grownBy w' u9000_.ownBlock :=
    fun W hR => compact_any hR 48 eq48 e48 (by rw [lsort_length]; exact hlen)
  have hbs := Kd.R_base ho0
  have HBs := Aside0.mk hbs
  have HB := Aside0.mk hB
  have HC := Aside0.mk hc
  clear ho0 hB e45 e48 hlen h hbs hc
  generalize lsort l0 = m at *
  generalize dedup m = d at *
  go_enter Try.func22, Try.ntmps22
  go_wp2_with (first
    | (go_at_call 44; refine hs.mono ?_; rintro e w1 ⟨rfl, hR, hg⟩; have HR := Aside0.mk hR; have HG := Aside0.mk hg; clear hR hg)
    | (go_at_call 47; refine (HC.out _ HR.out).mono ?_; rintro e w2 ⟨v0, rfl, hR2, hg2⟩; have HR2 := Aside0.mk hR2; have HG2 := Aside0.mk hg2; clear hR2 hg2))
  go_ret
  have hk1 := Kept.of_grown HG.out (Kept.refl w (fun k_ => some k_ = u9000_.ownBlock)) (fun k hk => .inl hk.symm)
  have hk2 := Kept.of_grown HG2.out hk1 (fun k hk => .inl hk.symm)
  exact ⟨v0, rfl, Kd.R_mono HR2.out (fun _ hk => .inl hk), (HB.out.grown HG.out HB.out.size (HBs.out)).grown HG2.out (Nat.le_trans HB.out.size HG.out.size) (HBs.out), hk2⟩

/-- One rotation. -/
def rotOf (a0 : Int) (l1 : List Int) (i : Nat) : List Int := isort (l1.map fun x => movedBy a0 (wrap64 (x + (i : Int))))
theorem rots_map (m : Nat) (l1 : List Int) : rots (m : Int) l1 = (List.range m).map (rotOf (m : Int) l1) := by
  unfold rots rotOf
  rw [Int.toNat_natCast]
theorem moved_rot (m : Nat) (hm : (m : Int) ≠ 0) (A1 : Option Addr) (c1 : Nat) (l1 : List Int) (i : Nat) (W : World) (hr : Kd.C (Kd.int .i64) W A1 l1.length l1) (hl : l1.length < 4611686018427) :
    Calls Try.prog 49 #[.int .i64 (m : Int), .slice A1 l1.length c1, .func (.func 52) #[] #[.pointer (some ⟨W.heap.size, 0, none⟩)]] (W.alloc (.cells #[.int .i64 (i : Int)] 3)) fun e w' => ∃ v0_ : Value, e = .returned v0_ ∧ Kd.R (Kd.int .i64) 3 w' (W.heap.size + 1) (fun _ => True) v0_ (rotOf (m : Int) l1 i) ∧ Below (W.heap.size + 1) (W.alloc (.cells #[.int .i64 (i : Int)] 3)) w' := by
  have eg : ∀ args w, (callFunc 52 args).run Try.prog w = .ok (.enter 52 args) w := enters_of Try.func52 (by kernel_rfl) rfl
  have h := moved_any (m : Int) hm A1 c1 l1 52 #[.pointer (some ⟨W.heap.size, 0, none⟩)] (fun x => wrap64 (x + (i : Int))) eg (W.alloc (.cells #[.int .i64 (i : Int)] 3)) (closure52 W.heap.size (i : Int) _ (by simp) (by simp)) (Kd.C_alloc hr _) hl
  have hz : (W.alloc (.cells #[.int .i64 (i : Int)] 3)).heap.size = W.heap.size + 1 := by simp
  rw [hz] at h
  exact h

set_option maxHeartbeats 8000000 in
set_option maxRecDepth 100000 in
theorem evenness_Rotations.calls (k : Nat) (a0 : Int) (A1 : Option Addr) (c1 : Nat) (l1 : List Int) (r1 : List (List Int)) (r2 : Int) (w : World) (hr1 : Kd.C (Kd.int .i64) w A1 l1.length l1) (hc1 : l1.length ≤ c1) (h : evenness_Rotations.f k a0 l1 = some (r1, r2)) :
    Calls Try.prog 25 #[.int .i64 a0, .slice A1 l1.length c1] w fun e w' => ∃ v0_ : Value, e = .returned (.tuple #[v0_, .int .i64 r2]) ∧ Kd.R (Kd.slice 3 (Kd.int .i64)) 23 w' w.heap.size (fun _ => True) v0_ r1 ∧ Below w.heap.size w w' := by
  obtain ⟨t, ht, h⟩ := Option.bind_eq_some_iff.mp h
  have HR1 := Aside0.mk hr1
  have HC1 := Aside0.mk hc1
  have HT := Aside0.mk ht
  clear hr1 hc1 ht
  by_cases c0 : t = 0
  · subst c0
    rw [if_pos rfl] at h
    split at h
    case isFalse => cases h
    split at h
    case isFalse => cases h
    split at h
    case isFalse => cases h
    rename_i b1 b2 b3
    obtain ⟨m, rfl⟩ : ∃ m : Nat, a0 = (m : Int) := ⟨a0.toNat, by omega⟩
    rw [rots_map] at h
    have h' := Option.some.inj h
    obtain ⟨rfl, rfl⟩ := Prod.mk.inj h'
    clear h h'
    have HL := Aside0.mk b3
    have HN := Aside0.mk b1
    have HM : Aside0 (m ≤ 60) := ⟨by omega⟩
    have hn0 : (m : Int) ≠ 0 := by omega
    have HN0 := Aside0.mk hn0
    have HB := Aside0.mk (Below.refl w.heap.size w)
    have e46 : ∀ args w, (callFunc 46 args).run Try.prog w = .ok (.enter 46 args) w := enters_of Try.func46 (by kernel_rfl) rfl
    have e14 : ∀ args w, (callFunc 14 args).run Try.prog w = .ok (.enter 14 args) w := enters_of Try.func14 (by kernel_rfl) rfl
    have E46 := Aside0.mk e46
    have E14 := Aside0.mk e14
    clear b1 b2 b3 e46 e14 hn0
    go_enter Try.func25, Try.ntmps25
    go_wp2_with (first
      | (go_at_call 37; (with_reducible refine (evenness_Check.calls k (m : Int) _ _ l1 0 _ HR1.out HC1.out HT.out).mono ?_); rintro e w' ⟨rfl, ⟨nd, rfl⟩⟩))
    go_loopg [7, 16] m (fun gg v7 v16 w' => ∃ (i : Nat), i ≤ m ∧ m - i ≤ gg ∧ v16 = .int .i64 (i : Int) ∧ Aside0 (Kd.R (Kd.slice 3 (Kd.int .i64)) 23 w' w.heap.size (fun _ => True) v7 ((List.range i).map (rotOf (m : Int) l1))) ∧ Aside0 (Below w.heap.size w w'))
    case atStart => exact ⟨0, Nat.zero_le _, by omega, rfl, ⟨Kd.R_nil _ _ _ _ _⟩, ⟨pw_below_drewN (Below.refl _ _) _⟩⟩
    case round =>
      clear HB
      obtain ⟨i, hi, hg, rfl, HO_7, HB⟩ := hrel
      by_cases hlt : i < m
      · have hltz : (i : Int) < (m : Int) := by omega
        have HLT := Aside0.mk hlt
        have hm60 := HM.out
        obtain ⟨y, hy⟩ : ∃ y, y = (List.range i).map (rotOf (m : Int) l1) := ⟨_, rfl⟩
        rw [← hy] at HO_7
        have hyl : y.length = i := by rw [hy]; simp
        have LM : Aside0 (y.length < 5864062014805) := ⟨by omega⟩
        obtain ⟨z, hz⟩ : ∃ z, z = rotOf (m : Int) l1 i := ⟨_, rfl⟩
        have hstep : (List.range (i + 1)).map (rotOf (m : Int) l1) = y ++ [z] := by rw [List.range_succ, List.map_append, ← hy, hz]; rfl
        have HS := Aside0.mk hstep
        have HZ := Aside0.mk hz
        clear hstep hy hyl hm60 hz
        go_wp2_with (first
          | (go_at_call 49; refine (moved_rot m HN0.out A1 c1 l1 i _ (Kd.C_below HR1.out HB.out) HL.out).mono ?_; rw [← HZ.out]; rintro e w6 ⟨v360, rfl, ho0, hb⟩; have n0_ := Aside0.mk (Kd.R_elder' (Kd.R_alloc HO_7.out _) (fun k hk => by have := Kd.R_base ho0 k hk; simp; omega) (hb.mono (by simp))); have n1_ := Aside0.mk (Kd.R_lower ho0 (Nat.le_trans (below_size HB.out) (Nat.le_succ _))); have n2_ := Aside0.mk (below_step (below_alloc HB.out _) (hb.mono (by simp))); clear HO_7; clear HB; have HO_7 := n0_; have HO361 := n1_; have HB := n2_; clear n0_ n1_ n2_; clear hb ho0; obtain ⟨Ao8, co8, eo8⟩ := Kd.R_slice HO361.out; subst eo8)
          | ((with_reducible refine gate_builtin (b := .append) (xs := #[.tmp 19, .tmp 24]) rfl ?_); at_builtin; refine Kd.R_append (Kd.slice 3 (Kd.int .i64)) (w0 := w) w.heap.size rfl (.tmp 19) (.tmp 24) 42 23 (.slice none 0 0) 24 rfl Try.underlying42 info23 rfl (by decide) (by omega) u7 y z [.slice Ao8 z.length co8] (fun _ => True) (fun k_ => ((fun _ => True)) k_ ∧ some k_ ≠ (u7 : Value).ownBlock) rfl rfl ?aP (fun _ hk => hk) ?aF ?aO ?aB ?aS ?aL ?_; (case aP => exact Kd.M_row (Kd.R_mono (Kd.R_apart' (HO361.out) (Kd.R_typed HO_7.out) (by decide)) (fun k_ hk => ⟨trivial, hk.2⟩))); (case aB => exact (by repeat (first | (with_reducible first | exact HB.out | apply below_alloc | apply pw_below_drewN | apply below_drew1) | exact HB.out))); (case aF => exact (fun _ _ => trivial)); (case aO => exact (by (with_reducible repeat (first | apply Kd.R_alloc | apply Kd.R_drewN | apply Kd.R_drew)); exact Kd.R_mono HO_7.out (fun _ hk => trivial))); (case aS => exact (below_size (by repeat (first | (with_reducible first | exact HB.out | apply below_alloc | apply pw_below_drewN | apply below_drew1) | exact HB.out)))); (case aL => have := LM.out; omega); intro v363 w7 ho hb hg hat; rw [← HS.out] at ho; have n0_ := Aside0.mk (hb); have n1_ := Aside0.mk (ho); clear HB; clear HO_7; clear HO361; have HB := n0_; have HO364 := n1_; clear n0_ n1_; clear ho hb hg hat))
        go_roundg (m - (i + 1))
        case measure => have := HLT.out; omega
        case rel => exact ⟨i + 1, by have := HLT.out; omega, Nat.le_refl _, by first | go_num | (have h1 := HM.out; have h2 := HLT.out; congr 1; unfold wrap64; omega), HO364, HB⟩
      · have hltz : ¬ (i : Int) < (m : Int) := by omega
        obtain rfl : i = m := by omega
        obtain ⟨y, hy⟩ : ∃ y, y = (List.range i).map (rotOf (i : Int) l1) := ⟨_, rfl⟩
        rw [← hy] at HO_7
        have hyl : y.length < 4611686018427387904 := by rw [hy]; have := HM.out; simp; omega
        have HYL := Aside0.mk hyl
        have HY := Aside0.mk hy
        clear hy hyl
        go_wp2_with (first
          | (go_at_call 44; refine (sort_any HO_7.out 46 cmp46 E46.out HYL.out).mono ?_; rintro e w1 ⟨rfl, hR, hg⟩; have HR := Aside0.mk hR; have HG := Aside0.mk hg; clear hR hg)
          | (go_at_call 47; refine (compact_any HR.out 14 eq14 E14.out (by rw [lsort_length]; exact HYL.out)).mono ?_; rintro e w2 ⟨v0, rfl, hR2, hg2⟩; have HR2 := Aside0.mk hR2; have HG2 := Aside0.mk hg2; clear hR2 hg2))
        go_ret2
        rw [← HY.out]
        exact ⟨v0, rfl, HR2.out, (HB.out.grown HG.out HB.out.size (Kd.R_base HO_7.out)).grown HG2.out (Nat.le_trans HB.out.size HG.out.size) (Kd.R_base HO_7.out)⟩
  · rw [if_neg c0] at h
    have h' := Option.some.inj h
    obtain ⟨rfl, rfl⟩ := Prod.mk.inj h'
    clear h h'
    have c0b : (t == 0) = false := beq_eq_false_iff_ne.mpr c0
    have c1b : (t != 0) = true := bne_iff_ne.mpr c0
    go_enter Try.func25, Try.ntmps25
    go_wp2_with (first
      | (go_at_call 37; (with_reducible refine (evenness_Check.calls k a0 _ _ l1 t _ HR1.out HC1.out HT.out).mono ?_); rintro e w' ⟨rfl, ⟨nd, rfl⟩⟩))
    go_ret2
    exact ⟨_, rfl, Kd.R_nil _ _ _ _ _, by repeat (first | exact Below.refl _ _ | apply below_alloc | apply pw_below_drewN | apply below_drew1)⟩
end Go.Proofs.Ytdbleoijefihhaa.PEv
