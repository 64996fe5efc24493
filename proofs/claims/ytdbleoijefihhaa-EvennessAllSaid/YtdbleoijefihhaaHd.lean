/- The model's same: slices.EqualFunc over two rows of slices. -/
import Derived.Test.YtdbleoijefihhaaHc
namespace Go.Proofs.Ytdbleoijefihhaa.PEv
open Go.RowKit Go.Proofs.YtdbleoijefihhaaW.PrintWords Go.Proofs.YtdbleoijefihhaaW.PrintLast Go.Proofs.YtdbleoijefihhaaW.PrintMore
set_option linter.unusedVariables false
set_option linter.unusedSimpArgs false

theorem at_slice {w : World} {A : Option Addr} {l : List (List Int)} (h : Kd.C (Kd.slice 3 (Kd.int .i64)) w A l.length l) (hn : 0 < l.length) :
    ∃ ad, A = some ad ∧ ∀ j (hj : j < l.length), ∃ A1 c1, w.cell? (ad.add j) = some (.slice A1 l[j].length c1) ∧ l[j].length ≤ c1 ∧ Kd.C (Kd.int .i64) w A1 l[j].length l[j] := by
  obtain ⟨ad, rfl, hc⟩ := h.2.2 hn
  refine ⟨ad, rfl, fun j hj => ?_⟩
  obtain ⟨c, _, hr, hcell⟩ := hc j l[j] (by simp [hj])
  obtain ⟨A1, c1, rfl, hle, hC⟩ := hr
  have := hcell 0 _ rfl
  rw [show (Kd.slice 3 (Kd.int .i64)).sz = 1 from rfl, Nat.mul_one, Nat.add_zero] at this
  exact ⟨A1, c1, this, hle, hC⟩

set_option maxHeartbeats 8000000 in
set_option maxRecDepth 100000 in
theorem equalFunc (A0 : Option Addr) (c0 : Nat) (l0 : List (List Int)) (A1 : Option Addr) (c1 : Nat) (l1 : List (List Int)) (f : Nat) (hf : EqOf f) (eg : ∀ args w, (callFunc f args).run Try.prog w = .ok (.enter f args) w) (w : World)
    (hr0 : Kd.C (Kd.slice 3 (Kd.int .i64)) w A0 l0.length l0) (hr1 : Kd.C (Kd.slice 3 (Kd.int .i64)) w A1 l1.length l1) :
    Calls Try.prog 42 #[.slice A0 l0.length c0, .slice A1 l1.length c1, .func (.func f) #[] #[]] w fun e w' => e = .returned (.bool (decide (l0 = l1))) ∧ ∃ q, w' = w.drewN q := by
  have HR0 := Aside0.mk hr0
  have HR1 := Aside0.mk hr1
  have HF := Aside0.mk hf
  have h63 := hr0.2.1
  clear hr0 hr1 hf
  by_cases hl : l0.length = l1.length
  · obtain ⟨n, hn⟩ : ∃ n, n = l0.length := ⟨_, rfl⟩
    have hn1 : l1.length = n := by omega
    have HN := Aside0.mk hn
    have HN1 := Aside0.mk hn1
    rw [← hn] at h63 ⊢
    rw [hn1]
    clear hl hn hn1
    have hdec : decide ((n : Int) = (n : Int)) = true := by simp
    go_enter Try.func42, Try.ntmps42
    go_wp2
    go_loopg [17] n (fun gg v17 wr => ∃ (i : Nat), i ≤ n ∧ n - i ≤ gg ∧ v17 = .int .i64 (i : Int) ∧ Aside0 (∃ q, wr = w.drewN q) ∧ Aside0 (∀ j (h0 : j < l0.length) (h1 : j < l1.length), j < i → l0[j] = l1[j]))
    case atStart => exact ⟨0, Nat.zero_le _, by omega, rfl, ⟨0, rfl⟩, ⟨fun j _ _ hj => absurd hj (Nat.not_lt_zero _)⟩⟩
    case round =>
      obtain ⟨i, hi, hg, rfl, HW, HA⟩ := hrel
      by_cases hlt : i < n
      · have hltz : (i : Int) < (n : Int) := by omega
        have i0 : i < l0.length := by have := HN.out; omega
        have i1 : i < l1.length := by have := HN1.out; omega
        obtain ⟨ad0, ea0, hc0⟩ := at_slice HR0.out (by omega)
        obtain ⟨ad1, ea1, hc1⟩ := at_slice HR1.out (by omega)
        subst ea0
        subst ea1
        obtain ⟨B0, d0, q0, m0, r0⟩ := hc0 i i0
        obtain ⟨B1, d1, q1, m1, r1⟩ := hc1 i i1
        clear hc0 hc1
        have HX : Aside0 (decide (l0[i] = l1[i]) = decide (l0[i] = l1[i])) := ⟨rfl⟩
        have hcall : Calls Try.prog f #[.slice B0 l0[i].length d0, .slice B1 l1[i].length d1] wr fun e w' => e = .returned (.bool (decide (l0[i] = l1[i]))) ∧ ∃ q, w' = wr.drewN q := by
          obtain ⟨q, rfl⟩ := HW.out
          exact HF.out _ B0 d0 _ B1 d1 _ (Kd.C_drewN r0 _) m0 (Kd.C_drewN r1 _) m1
        have hcell0 : wr.cell? (ad0.add i) = some (.slice B0 l0[i].length d0) := by obtain ⟨q, rfl⟩ := HW.out; exact q0
        have hcell1 : wr.cell? (ad1.add i) = some (.slice B1 l1[i].length d1) := by obtain ⟨q, rfl⟩ := HW.out; exact q1
        have HLT := Aside0.mk hlt
        have hbig : n ≤ 9223372036854775807 := h63
        have HBIG := Aside0.mk hbig
        clear q0 q1 r0 r1 hbig
        by_cases he : l0[i] = l1[i]
        · have HE := Aside0.mk he
          rw [decide_eq_true he] at hcall
          clear he
          generalize l0[i].length = e0 at hcell0 hcall m0
          generalize l1[i].length = e1 at hcell1 hcall m1
          go_wp2_with (first
            | (go_at_fn f; refine hcall.mono ?_; rintro e w' ⟨rfl, q', rfl⟩))
          go_roundg (n - (i + 1))
          case measure => have := HLT.out; omega
          case rel =>
            refine ⟨i + 1, by have := HLT.out; omega, Nat.le_refl _, by first | go_num | (have h1 := HBIG.out; have h2 := HLT.out; congr 1; unfold wrap64; omega), ⟨by obtain ⟨q, hq⟩ := HW.out; exact ⟨q + q', by rw [hq, World.drewN_drewN]⟩⟩, ⟨fun j h0 h1 hj => ?_⟩⟩
            by_cases e : j = i
            · subst e; exact HE.out
            · exact HA.out j h0 h1 (by omega)
        · have HE := Aside0.mk he
          rw [decide_eq_false he] at hcall
          clear he
          generalize l0[i].length = e0 at hcell0 hcall m0
          generalize l1[i].length = e1 at hcell1 hcall m1
          go_wp2_with (first
            | (go_at_fn f; refine hcall.mono ?_; rintro e w' ⟨rfl, q', rfl⟩))
          go_ret
          refine ⟨?_, ?_⟩
          · have : ¬ l0 = l1 := fun e => HE.out (by simp [e])
            rw [decide_eq_false this]
            rfl
          · obtain ⟨q, hq⟩ := HW.out
            exact ⟨q + q', by rw [hq, World.drewN_drewN]⟩
      · have hltz : ¬ (i : Int) < (n : Int) := by omega
        obtain rfl : i = n := by omega
        go_wp2
        go_ret
        refine ⟨?_, HW.out⟩
        have : l0 = l1 := List.ext_getElem (by have := HN.out; have := HN1.out; omega) (fun j h0 h1 => HA.out j h0 h1 (by have := HN.out; omega))
        rw [decide_eq_true this]
        rfl
  · have hne : ¬ l0 = l1 := fun e => hl (by rw [e])
    rw [decide_eq_false hne]
    have hz : ((l0.length : Int) == (l1.length : Int)) = false := beq_eq_false_iff_ne.mpr (by omega)
    have hz1 : ((l0.length : Int) != (l1.length : Int)) = true := bne_iff_ne.mpr (by omega)
    clear hne
    go_enter Try.func42, Try.ntmps42
    go_wp2
    go_ret
    exact ⟨rfl, 0, rfl⟩

set_option maxHeartbeats 2000000 in
theorem schismalaw35_same.calls (A0 : Option Addr) (c0 : Nat) (l0 : List (List Int)) (A1 : Option Addr) (c1 : Nat) (l1 : List (List Int)) (r : Bool) (w : World) (hr0 : Kd.C (Kd.slice 3 (Kd.int .i64)) w A0 l0.length l0) (hc0 : l0.length ≤ c0) (hr1 : Kd.C (Kd.slice 3 (Kd.int .i64)) w A1 l1.length l1) (hc1 : l1.length ≤ c1) (h : schismalaw35_same.f l0 l1 = some r) :
    Calls Try.prog 21 #[.slice A0 l0.length c0, .slice A1 l1.length c1] w fun e w' => e = .returned (.bool r) ∧ Drawn0 w w' := by
  obtain rfl := Option.some.inj h
  have e43 : ∀ args w, (callFunc 43 args).run Try.prog w = .ok (.enter 43 args) w := enters_of Try.func43 (by kernel_rfl) rfl
  have hc := equalFunc A0 c0 l0 A1 c1 l1 43 eq43 e43 w hr0 hr1
  generalize decide (l0 = l1) = r at hc ⊢
  clear hr0 hr1 h e43
  go_enter Try.func21, Try.ntmps21
  go_wp2_with (go_at_call 42; refine hc.mono ?_; rintro e w' ⟨rfl, q, rfl⟩)
  go_ret
  exact ⟨rfl, ⟨q, rfl⟩⟩
end Go.Proofs.Ytdbleoijefihhaa.PEv
