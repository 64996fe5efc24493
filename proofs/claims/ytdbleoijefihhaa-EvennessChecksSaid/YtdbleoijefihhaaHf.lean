/- slices.CompactFunc at a slice of slices, whatever function compares two elements: what the row holds behind the call. -/
import Derived.Test.YtdbleoijefihhaaHz
import Derived.Shelf.GgSortFunc.SW
import Derived.Lib.SlKept
import Derived.Lib.SlicesCompact
import Derived.Shelf.SlicesE.Kit
import Derived.Lib.SliceRun
import Derived.Lib.Walk
import Derived.IntWalk
namespace Go.Proofs.Ytdbleoijefihhaa.PEv
open Go.RowKit Go.Proofs.YtdbleoijefihhaaW.PrintWords Go.Proofs.YtdbleoijefihhaaW.PrintLast Go.Proofs.YtdbleoijefihhaaW.PrintMore
set_option linter.unusedVariables false
set_option linter.unusedSimpArgs false
open Go.Shelf Go.Lib Go.Sort

/-- Place j of d is kept: it is the first, or 'eq' parts it from the place before it. -/
def kpE {α : Type} [Inhabited α] (eq : α → α → Bool) (d : Array α) (j : Nat) : Bool := decide (j = 0) || !eq d[j]! d[j - 1]!

set_option maxHeartbeats 4000000 in
set_option maxRecDepth 1000000 in
theorem compactFunc {α : Type} [Inhabited α] (enc : α → Value) (hO : OneCell enc) (eq : α → α → Bool) (g : Nat) (lb : Array Value) (eg : ∀ args w, (callFunc g args).run Try.prog w = .ok (.enter g args) w) (zr : α) (hzr : enc zr = .slice none 0 0)
    (blk off cap : Nat) (d : Array α) (w : World)
    (hpo : ∀ (q : Nat) (dk : Array α) (x y : α), dk.size = d.size → Calls Try.prog g (#[enc x, enc y] ++ lb) (putRow enc (Sort.ahead w q) blk off dk) fun e w' => e = .returned (.bool (eq x y)) ∧ ∃ qq, w' = (putRow enc (Sort.ahead w q) blk off dk).drewN qq)
    (hH : Holds enc w blk off d) (hsz : d.size ≤ 9223372036854775807) (hcap : d.size ≤ cap) :
    Calls Try.prog 47 #[.slice (some ⟨blk, off, none⟩) d.size cap, .func (.func g) #[] lb] w fun e w' => e = .returned (.slice (some ⟨blk, off, none⟩) (keptUpTo (kpE eq d) d d.size).length cap) ∧ ∃ q, w' = putRow enc (Sort.ahead w q) blk off (keptUpTo (kpE eq d) d d.size ++ List.replicate (d.size - (keptUpTo (kpE eq d) d d.size).length) zr).toArray := by
  have hcl0 := hO.cells
  simp only [Value.cells] at hcl0
  have hst := hO.store Try.prog
  obtain ⟨kp, HK⟩ : ∃ kp : Nat → Bool, Hid (kp = kpE eq d) := ⟨_, rfl⟩
  rw [← HK.out]
  have k0 : kp 0 = true := by rw [HK.out]; simp [kpE]
  have ks : ∀ j, kp (j + 1) = !eq d[j + 1]! d[j]! := by intro j; rw [HK.out]; simp [kpE]
  have KS := Aside0.mk ks
  have K0 := Aside0.mk k0
  clear ks k0
  have same : ∀ q, (∀ j, j < d.size → kp j = true) → (keptUpTo kp d d.size).length = d.size ∧ w.drewN q = putRow enc (Sort.ahead w q) blk off (keptUpTo kp d d.size ++ List.replicate (d.size - (keptUpTo kp d d.size).length) zr).toArray := by
    intro q hall
    have e : keptUpTo kp d d.size = d.toList := by rw [keptUpTo_all kp d _ hall, range_map_get]
    rw [e]
    refine ⟨by simp, ?_⟩
    simp only [Array.length_toList, Nat.sub_self, List.replicate_zero, List.append_nil, Array.toArray_toList]
    exact (putRow_self enc (Sort.ahead w q) blk off d (holds_ahead enc w q blk off d hH)).symm
  have HS := Aside0.mk same
  clear same
  have HC := Aside0.mk hpo
  have HH := Aside0.mk hH
  clear hpo hH
  have HK1 : Aside0 (∀ j, j < 1 → kp j = true) := ⟨fun j hj => by
    have : j = 0 := by omega
    subst this
    exact K0.out⟩
  by_cases h2 : d.size < 2
  · go_enter Try.func47, Try.ntmps47
    go_wp2
    go_ret
    obtain ⟨e1, e2⟩ := HS.out 0 (fun j hj => HK1.out j (by omega))
    exact ⟨by rw [e1]; rfl, 0, e2⟩
  · go_enter Try.func47, Try.ntmps47
    go_wp2
    go_loopg [5] d.size (fun gg s5 wr => ∃ k : Nat, 1 ≤ k ∧ k ≤ d.size ∧ d.size - k ≤ gg ∧ s5 = .int .i64 k ∧ Aside0 (∃ q, wr = w.drewN q) ∧ Aside0 (∀ j, j < k → kp j = true))
    case atStart => exact ⟨1, Nat.le_refl _, by omega, by omega, rfl, ⟨0, rfl⟩, HK1⟩
    case round =>
      obtain ⟨k, hk1, hk, hg, rfl, HWR, A⟩ := hrel
      by_cases hlt : k < d.size
      · have hltz : (k : Int) < (d.size : Int) := by omega
        have hHr : Holds enc wr blk off d := by
          obtain ⟨q, rfl⟩ := HWR.out
          exact holds_ahead enc w q blk off d HH.out
        obtain ⟨c1, f1⟩ := hHr k hlt
        obtain ⟨c0, f0⟩ := hHr (k - 1) (by omega)
        clear hHr
        have hcall : ∀ n, Calls Try.prog g (#[enc d[k]!, enc d[k - 1]!] ++ lb) (wr.drewN n) fun e w' => e = .returned (.bool (eq d[k]! d[k - 1]!)) ∧ ∃ qq, w' = (wr.drewN n).drewN qq := by
          intro n
          obtain ⟨q, rfl⟩ := HWR.out
          have h := HC.out (q + n) d d[k]! d[k - 1]! rfl
          rw [show putRow enc (Sort.ahead w (q + n)) blk off d = w.drewN (q + n) from putRow_self enc (Sort.ahead w (q + n)) blk off d (holds_ahead enc w (q + n) blk off d HH.out)] at h
          rw [World.drewN_drewN]
          exact h
        have hkp := KS.out (k - 1)
        rw [show k - 1 + 1 = k by omega] at hkp
        have B := Aside0.mk hkp
        clear hkp
        generalize d[k]! = x at c1 hcall B
        generalize d[k - 1]! = y at c0 hcall B
        have e1 : IntKind.i64.wrap ((k : Int) - 1) = (k : Int) - 1 := IntWalk.i64_in _ (by omega)
        have e2 : (0 : Int) ≤ (k : Int) - 1 := by omega
        have e3 : (1 : Int) ≤ (k : Int) := by omega
        have e4 : (k : Int) - 1 < (d.size : Int) := by omega
        have e5 : ((k : Int) - 1).toNat = k - 1 := by omega
        cases hq : eq x y with
        | true =>
          rw [hq] at hcall B
          go_wp2_with fail
          go_quiet ((go_at_fn g; exact Calls.quiet_of (hcall _)))
          clear e1 e2 e3 e4 e5 c1 c0 f1 f0 hcall
          have HW2 : Aside0 (∃ q, wr.drewN nq = w.drewN q) := ⟨by
            obtain ⟨q, hq'⟩ := HWR.out
            exact ⟨q + nq, by rw [hq', World.drewN_drewN]⟩⟩
          generalize wr.drewN nq = wr2 at HW2 ⊢
          clear HWR
          go_wp2
          go_loopg [5, 7] d.size (fun gg s5 s7 wr => ∃ (i j : Nat) (dk : Array α), s5 = .int .i64 i ∧ s7 = .int .i64 j ∧ 1 ≤ j ∧ k + j ≤ d.size ∧ d.size - (k + j) ≤ gg ∧ Aside0 (∃ q, wr = putRow enc (Sort.ahead w q) blk off dk) ∧ Aside0 (KeptInv kp d (k + j) i dk))
          case atStart =>
            obtain ⟨q, hq'⟩ := HW2.out
            exact ⟨k, 1, d, rfl, rfl, Nat.le_refl _, by omega, by omega, ⟨q, by rw [hq']; exact (putRow_self enc (Sort.ahead w q) blk off d (holds_ahead enc w q blk off d HH.out)).symm⟩, ⟨KeptInv.start A.out B.out⟩⟩
          case round =>
            obtain ⟨i, j, dk, rfl, rfl, hj1, hjd, hgg, W2, I2⟩ := hrel
            have hij := I2.out.lt
            have hds := I2.out.size
            have hHk : Holds enc wr blk off dk := by
              obtain ⟨q, hwr⟩ := W2.out
              rw [hwr]; exact holds_putRow enc _ blk off d dk (holds_ahead enc w q blk off d HH.out) hds
            by_cases hlt2 : k + j < d.size
            · obtain ⟨cj, _⟩ := hHk (k + j) (by omega)
              obtain ⟨cp, _⟩ := hHk (k + j - 1) (by omega)
              obtain ⟨ci, fi⟩ := hHk i (by omega)
              rw [I2.out.high (k + j) (by omega)] at cj
              rw [I2.out.high (k + j - 1) (by omega)] at cp
              have hcall : ∀ n, Calls Try.prog g (#[enc d[k + j]!, enc d[k + j - 1]!] ++ lb) (wr.drewN n) fun e w' => e = .returned (.bool (eq d[k + j]! d[k + j - 1]!)) ∧ ∃ qq, w' = (wr.drewN n).drewN qq := by
                intro n
                obtain ⟨q, hwr⟩ := W2.out
                have h := HC.out (q + n) dk d[k + j]! d[k + j - 1]! hds
                rw [hwr]
                rw [show (putRow enc (Sort.ahead w q) blk off dk).drewN n = putRow enc (Sort.ahead w (q + n)) blk off dk from putRow_drewN _ _ _ _ _ _ _]
                exact h
              have hkp := KS.out (k + j - 1)
              rw [show k + j - 1 + 1 = k + j by omega] at hkp
              have B2 := Aside0.mk hkp
              clear hkp hHk
              rw [show off + (k + j) = off + k + j by omega] at cj
              rw [show off + (k + j - 1) = off + k + (j - 1) by omega] at cp
              have HU := Aside0.mk (rfl : d[k + j]! = d[k + j]!)
              generalize d[k + j - 1]! = v at cp hcall B2
              generalize hu : d[k + j]! = u at cj hcall B2
              generalize dk[i]! = old at ci
              have C := Aside0.mk hu
              clear hu HU
              have e1 : IntKind.i64.wrap ((j : Int) - 1) = (j : Int) - 1 := IntWalk.i64_in _ (by omega)
              have e2 : (0 : Int) ≤ (j : Int) - 1 := by omega
              have e3 : (1 : Int) ≤ (j : Int) := by omega
              have e4 : (j : Int) - 1 < ((d.size - k : Nat) : Int) := by omega
              have e5 : ((j : Int) - 1).toNat = j - 1 := by omega
              have e6 : (j : Int) < ((d.size - k : Nat) : Int) := by omega
              cases hq2 : eq u v with
              | true =>
                rw [hq2] at hcall B2
                go_wp2_with fail
                go_quiet ((go_at_fn g; exact Calls.quiet_of (hcall _)))
                clear e1 e2 e3 e4 e5 hcall
                have W3 : Aside0 (∃ q, wr.drewN nq = putRow enc (Sort.ahead w q) blk off dk) := ⟨by
                  obtain ⟨q, hq'⟩ := W2.out
                  exact ⟨q + nq, by rw [hq']; exact putRow_drewN _ _ _ _ _ _ _⟩⟩
                generalize wr.drewN nq = wr3 at W3 ⊢
                go_wp2
                go_roundg (d.size - (k + (j + 1)))
                case measure => omega
                case rel => exact ⟨i, j + 1, dk, rfl, by go_num, by omega, by omega, Nat.le_refl _, W3, ⟨I2.out.skip B2.out⟩⟩
              | false =>
                rw [hq2] at hcall B2
                go_wp2_with fail
                go_quiet ((go_at_fn g; exact Calls.quiet_of (hcall _)))
                clear e1 e2 e3 e4 e5 hcall
                have W3 : Aside0 (∃ q, wr.drewN nq = putRow enc (Sort.ahead w q) blk off dk) := ⟨by
                  obtain ⟨q, hq'⟩ := W2.out
                  exact ⟨q + nq, by rw [hq']; exact putRow_drewN _ _ _ _ _ _ _⟩⟩
                have cj3 : (wr.drewN nq).cell? ⟨blk, off + k + j, none⟩ = some (enc u) := cj
                have ci3 : (wr.drewN nq).cell? ⟨blk, off + i, none⟩ = some (enc old) := ci
                have fi3 : (wr.drewN nq).frozen? ⟨blk, off + i, none⟩ = false := fi
                clear cj ci fi cp
                generalize wr.drewN nq = wr3 at W3 cj3 ci3 fi3 ⊢
                go_wp2
                go_roundg (d.size - (k + (j + 1)))
                case measure => omega
                case rel =>
                  refine ⟨i + 1, j + 1, dk.setIfInBounds i u, by go_num, by go_num, by omega, by omega, Nat.le_refl _, ⟨?_⟩, ⟨?_⟩⟩
                  · obtain ⟨q, hq'⟩ := W3.out
                    first
                    | exact ⟨q, by rw [hq', putRow_set enc _ blk off dk i u (by omega)]⟩
                    | exact ⟨q + 1, by rw [hq', putRow_set enc _ blk off dk i u (by omega), ← ahead_drew]; rfl⟩
                  · have := I2.out.keep hlt2 B2.out
                    rwa [C.out] at this
            · have hend : k + j = d.size := by omega
              have hcl : ∀ ty, (Builtin.clear_ #[42] ty #[.slice (some ⟨blk, off + i, none⟩) (d.size - i) (cap - i)]).run Try.prog wr = .ok (.tuple #[]) (wr.setCells blk (off + i) (List.replicate (d.size - i) (enc zr))) :=
                fun ty => Lib.run_clear_slice wr _ _ ty _ Try.underlying42 (by rw [hzr]; exact Try.zeroValue23) (hO.cells zr) (hO zr) blk (off + i) _ _ (by omega) (fun t ht => by rw [show off + i + t = off + (i + t) by omega, (hHk (i + t) (by omega)).1]; rfl) (fun t ht => by rw [show off + i + t = off + (i + t) by omega]; exact (hHk (i + t) (by omega)).2)
              clear hHk
              go_wp2
              go_ret
              have hI := I2.out
              rw [hend] at hI
              obtain ⟨q, hq'⟩ := W2.out
              refine ⟨by rw [hI.len]; rfl, q, ?_⟩
              rw [hI.len, ← hI.done zr, ← putRow_setCells enc _ blk off _ dk i (by simp; omega), ← hq', List.map_replicate, hzr]
        | false =>
          rw [hq] at hcall B
          go_wp2_with fail
          go_quiet ((go_at_fn g; exact Calls.quiet_of (hcall _)))
          clear e1 e2 e3 e4 e5 c1 c0 f1 f0 hcall
          have HW2 : Aside0 (∃ q, wr.drewN nq = w.drewN q) := ⟨by
            obtain ⟨q, hq'⟩ := HWR.out
            exact ⟨q + nq, by rw [hq', World.drewN_drewN]⟩⟩
          generalize wr.drewN nq = wr2 at HW2 ⊢
          go_wp2
          go_roundg (d.size - (k + 1))
          case measure => omega
          case rel =>
            refine ⟨k + 1, by omega, by omega, Nat.le_refl _, by go_num, HW2, ⟨fun j hj => ?_⟩⟩
            by_cases e : j = k
            · subst e
              exact B.out
            · exact A.out j (by omega)
      · have : k = d.size := by omega
        subst this
        go_wp2
        go_ret
        obtain ⟨q, hq⟩ := HWR.out
        obtain ⟨e1, e2⟩ := HS.out q A.out
        exact ⟨by rw [e1]; rfl, q, by rw [hq]; exact e2⟩

end Go.Proofs.Ytdbleoijefihhaa.PEv
