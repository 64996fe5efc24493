/- A row of slices of the call's own, sorted by slices.SortFunc and compacted by slices.CompactFunc: the sorted list of lists, each list once. -/
import Derived.Test.YtdbleoijefihhaaHe
import Derived.Test.YtdbleoijefihhaaHf
import Derived.Sort.Grow
namespace Go.Proofs.Ytdbleoijefihhaa.PEv
open Go.RowKit Go.Proofs.YtdbleoijefihhaaW.PrintWords Go.Proofs.YtdbleoijefihhaaW.PrintLast Go.Proofs.YtdbleoijefihhaaW.PrintMore
set_option linter.unusedVariables false
set_option linter.unusedSimpArgs false
open Go.Shelf Go.Lib Go.Sort

/-- A row of slices that lies in block g: what its cells hold, and what those lead to. -/
structure RowOf (w : World) (g base cap : Nat) (ok : Nat → Prop) (inner : List Value) (xs : List (List Int)) (cur : Array Value) : Prop where
  len : inner.length = xs.length
  hb : w.heap[g]? = some (.cells cur 23 (0, 0))
  cap1 : xs.length ≤ cap
  cap2 : cap ≤ maxLen
  csz : cur.size = cap
  take : cur.toList.take xs.length = inner
  hbase : base ≤ g
  okg : ok g
  el : ∀ j (h1 : j < inner.length) (h2 : j < xs.length), (Kd.int .i64).R 3 w base (fun k => ok k ∧ k ≠ g) inner[j] xs[j]

theorem rowOf_of_R {w : World} {base : Nat} {ok : Nat → Prop} {v : Value} {xs : List (List Int)} (h : Kd.R (Kd.slice 3 (Kd.int .i64)) 23 w base ok v xs) :
    (v = .slice none 0 0 ∧ xs = []) ∨ ∃ g cap cur inner, v = .slice (some ⟨g, 0, none⟩) xs.length cap ∧ RowOf w g base cap ok inner xs cur := by
  obtain ⟨h0, inner, ho, hr⟩ := h
  have hl : inner.length = xs.length := by have := hr.1; rw [show (Kd.slice 3 (Kd.int .i64)).sz = 1 from rfl, Nat.mul_one] at this; exact this
  rcases ho.2 with ⟨rfl, hn⟩ | ⟨g, cap, cur, rfl, hg, hb, h1, h2, h3, h4⟩
  · exact .inl ⟨rfl, List.length_eq_zero_iff.1 hn⟩
  · refine .inr ⟨g, cap, cur, inner, rfl, hl, hb, h1, h2, by simpa [show (Kd.slice 3 (Kd.int .i64)).sz = 1 from rfl] using h3, by simpa [show (Kd.slice 3 (Kd.int .i64)).sz = 1 from rfl] using h4, hg, h0 g rfl, fun j j1 j2 => ?_⟩
    obtain ⟨v', hv', hR⟩ := hr.2 j xs[j] (by simp [j2])
    rw [show (Kd.slice 3 (Kd.int .i64)).sz = 1 from rfl, Nat.mul_one, List.drop_eq_getElem_cons j1] at hv'
    have e : inner[j] = v' := by rw [List.take_succ_cons, List.take_zero] at hv'; exact (List.cons.inj hv').1
    rw [e]
    exact Kd.R_mono hR (fun k hk => ⟨hk.1, fun e => hk.2 (by rw [e]; rfl)⟩)

theorem R_of_rowOf {w : World} {g base cap : Nat} {ok : Nat → Prop} {inner : List Value} {xs : List (List Int)} {cur : Array Value} (h : RowOf w g base cap ok inner xs cur) :
    Kd.R (Kd.slice 3 (Kd.int .i64)) 23 w base ok (.slice (some ⟨g, 0, none⟩) xs.length cap) xs := by
  refine ⟨fun k hk => by simp [Value.ownBlock] at hk; rw [← hk]; exact h.okg, inner, ⟨by rw [show (Kd.slice 3 (Kd.int .i64)).sz = 1 from rfl, Nat.mul_one]; exact h.len, .inr ⟨g, cap, cur, rfl, h.hbase, h.hb, h.cap1, h.cap2, by rw [show (Kd.slice 3 (Kd.int .i64)).sz = 1 from rfl, Nat.mul_one]; exact h.csz, by rw [show (Kd.slice 3 (Kd.int .i64)).sz = 1 from rfl, Nat.mul_one]; exact h.take⟩⟩, by rw [show (Kd.slice 3 (Kd.int .i64)).sz = 1 from rfl, Nat.mul_one]; exact h.len, fun j p hp => ?_⟩
  obtain ⟨hj, rfl⟩ := List.getElem?_eq_some_iff.1 hp
  have hj1 : j < inner.length := by have := h.len; omega
  refine ⟨inner[j], ?_, Kd.R_mono (h.el j hj1 hj) (fun k hk => ⟨hk.1, fun e => hk.2 (by simpa [Value.ownBlock] using e)⟩)⟩
  rw [show (Kd.slice 3 (Kd.int .i64)).sz = 1 from rfl, Nat.mul_one, List.drop_eq_getElem_cons hj1]
  rfl

/-- The elements by number: 0 is nil. -/
def encF (inner : List Value) (i : Fin (inner.length + 1)) : Value := (Value.slice none 0 0 :: inner)[i.val]
def conF (inner : List Value) (xs : List (List Int)) (i : Fin (inner.length + 1)) : List Int := ([] :: xs).getD i.val []
def d0F (inner : List Value) : Array (Fin (inner.length + 1)) := Array.ofFn (fun i : Fin inner.length => i.succ)

theorem d0F_size (inner : List Value) : (d0F inner).size = inner.length := by simp [d0F]
theorem d0F_map {inner : List Value} {xs : List (List Int)} (hl : inner.length = xs.length) : (d0F inner).toList.map (conF inner xs) = xs := by
  apply List.ext_getElem
  · simp [d0F, hl]
  · intro j h1 h2
    simp [d0F, conF, h2]
theorem d0F_enc (inner : List Value) : (d0F inner).toList.map (encF inner) = inner := by
  apply List.ext_getElem
  · simp [d0F]
  · intro j h1 h2
    simp [d0F, encF]

section
variable {w : World} {g base cap : Nat} {ok : Nat → Prop} {inner : List Value} {xs : List (List Int)} {cur : Array Value}
theorem RowOf.all (h : RowOf w g base cap ok inner xs cur) (i : Fin (inner.length + 1)) : (Kd.int .i64).R 3 w base (fun k => ok k ∧ k ≠ g) (encF inner i) (conF inner xs i) := by
  obtain ⟨i, hi⟩ := i
  cases i with
  | zero => exact Kd.R_nil _ _ _ _ _
  | succ j =>
    have h1 : j < inner.length := by omega
    have h2 : j < xs.length := by have := h.len; omega
    have := h.el j h1 h2
    simpa [encF, conF, h2] using this
theorem RowOf.one (h : RowOf w g base cap ok inner xs cur) : OneCell (encF inner) := by
  intro i
  obtain ⟨A, c, e⟩ := Kd.R_slice (h.all i)
  rw [e]
  rfl
/-- In a world that has turned no old block but g. -/
theorem RowOf.reads (h : RowOf w g base cap ok inner xs cur) {W : World} (hW : ∀ k, k < w.heap.size → k ≠ g → W.heap[k]? = w.heap[k]?) (i : Fin (inner.length + 1)) :
    ∃ A c, encF inner i = .slice A (conF inner xs i).length c ∧ (conF inner xs i).length ≤ c ∧ Kd.C (Kd.int .i64) W A (conF inner xs i).length (conF inner xs i) :=
  Kd.R_reads (Kd.R_step (h.all i) (fun k hk hlt => hW k hlt hk.2))
theorem RowOf.holds (h : RowOf w g base cap ok inner xs cur) : Holds (encF inner) w g 0 (d0F inner) := by
  intro j hj
  have hj' : j < inner.length := by simpa [d0F] using hj
  refine ⟨?_, by simp [World.frozen?, h.hb]⟩
  have h1 : (cur.toList.take xs.length)[j]? = inner[j]? := by rw [h.take]
  rw [List.getElem?_take_of_lt (by have := h.len; omega)] at h1
  simp only [World.cell?, h.hb, Nat.zero_add]
  simp only [Option.isSome_none, Bool.false_eq_true, if_false]
  rw [← Array.getElem?_toList, h1, getElem!_pos _ j hj]
  simp [hj', encF, d0F]
/-- The row rewritten with some of its elements. -/
theorem RowOf.put (h : RowOf w g base cap ok inner xs cur) {W : World} (D : Array (Fin (inner.length + 1))) (hD : D.size = inner.length) (m : Nat) (hm : m ≤ D.size)
    (hW : ∀ k, k < w.heap.size → k ≠ g → W.heap[k]? = w.heap[k]?) (hg : W.heap[g]? = some (.cells (putCells (encF inner) 0 D cur) 23 (0, 0))) :
    RowOf W g base cap ok ((D.toList.take m).map (encF inner)) ((D.toList.take m).map (conF inner xs)) (putCells (encF inner) 0 D cur) where
  len := by simp
  hb := hg
  cap1 := by have := h.cap1; have := h.len; simp; omega
  cap2 := h.cap2
  csz := by simp [putCells, h.csz]
  take := by
    have hc := h.cap1
    have hz := h.csz
    have hl := h.len
    apply List.ext_getElem?
    intro j
    have hlen : ((D.toList.take m).map (conF inner xs)).length = m := by simp; omega
    rw [hlen]
    by_cases hj : j < m
    · rw [List.getElem?_take_of_lt hj, Array.getElem?_toList]
      have hjD : j < D.size := by omega
      have hjc : j < cur.size := by omega
      simp [putCells, hjc, hjD, List.getElem?_take_of_lt hj]
    · rw [List.getElem?_take_eq_none (by omega), List.getElem?_eq_none (by simp; omega)]
  hbase := h.hbase
  okg := h.okg
  el := by
    intro j j1 j2
    simp only [List.getElem_map]
    exact Kd.R_step (h.all _) (fun k hk hlt => hW k hlt hk.2)
end

theorem heap_put {α : Type} [Inhabited α] {enc : α → Value} {w : World} {g n : Nat} {os : Array Obj} {cur : Array Value} {e : TypeId} {fr : Nat × Nat} (d : Array α) (hb : w.heap[g]? = some (.cells cur e fr)) :
    (grow (putRow enc (Sort.ahead w n) g 0 d) os).heap[g]? = some (.cells (putCells enc 0 d cur) e fr) := by
  have hg : g < w.heap.size := (Array.getElem?_eq_some_iff.1 hb).1
  rw [heap_grow_old _ _ (by simpa using hg)]
  simp [putRow, mapBlock, Sort.ahead, Array.getElem?_modify, hb, onCells]
theorem grownBy_put {α : Type} [Inhabited α] {enc : α → Value} {w : World} {g n : Nat} {os : Array Obj} (d : Array α) : w.grownBy (grow (putRow enc (Sort.ahead w n) g 0 d) os) (some g) := by
  refine ⟨rfl, rfl, rfl, by simp, fun k hk hne => ?_⟩
  rw [heap_grow_old _ _ (by simpa using hk)]
  have : g ≠ k := fun e => hne (by rw [e])
  simp [putRow, mapBlock, Sort.ahead, Array.getElem?_modify, this]
theorem grown_blocks {w W : World} {g : Nat} (h : w.grownBy W (some g)) : ∀ k, k < w.heap.size → k ≠ g → W.heap[k]? = w.heap[k]? :=
  fun k hk hne => h.block k hk (by simpa using hne)

/-- What is asked of a comparison of two slices. -/
def CmpOf (f : Nat) : Prop := ∀ (W : World) (A0 : Option Addr) (c0 : Nat) (l0 : List Int) (A1 : Option Addr) (c1 : Nat) (l1 : List Int), Kd.C (Kd.int .i64) W A0 l0.length l0 → l0.length ≤ c0 → Kd.C (Kd.int .i64) W A1 l1.length l1 → l1.length ≤ c1 →
  Calls Try.prog f #[.slice A0 l0.length c0, .slice A1 l1.length c1] W fun e w' => e = .returned (.int .i64 (lexcmp l0 l1)) ∧ ∃ q, w' = W.drewN q
def EqOf (f : Nat) : Prop := ∀ (W : World) (A0 : Option Addr) (c0 : Nat) (l0 : List Int) (A1 : Option Addr) (c1 : Nat) (l1 : List Int), Kd.C (Kd.int .i64) W A0 l0.length l0 → l0.length ≤ c0 → Kd.C (Kd.int .i64) W A1 l1.length l1 → l1.length ≤ c1 →
  Calls Try.prog f #[.slice A0 l0.length c0, .slice A1 l1.length c1] W fun e w' => e = .returned (.bool (decide (l0 = l1))) ∧ ∃ q, w' = W.drewN q

theorem swo_lex {α : Type} (con : α → List Int) : SWO (ltOf fun x y => lexcmp (con x) (con y)) where
  irrefl x := by simp [ltOf, lexcmp_self]
  trans x y z h1 h2 := by
    simp only [ltOf, decide_eq_true_eq] at *
    have a := lexcmp_trans (con x) (con y) (con z) (by omega) (by omega)
    have b := lexcmp_three (con x) (con z)
    rcases b with b | b | b
    · omega
    · have e := lexcmp_zero _ _ b
      rw [e] at h1
      have := lexcmp_neg (con y) (con z)
      omega
    · omega
  ntrans x y z h1 h2 := by
    simp only [ltOf, decide_eq_false_iff_not] at *
    have a1 := lexcmp_neg (con x) (con y)
    have a2 := lexcmp_neg (con y) (con z)
    have a3 := lexcmp_neg (con x) (con z)
    have a := lexcmp_trans (con z) (con y) (con x) (by omega) (by omega)
    omega

theorem sort_row {w : World} {g base cap : Nat} {ok : Nat → Prop} {inner : List Value} {xs : List (List Int)} {cur : Array Value} (h : RowOf w g base cap ok inner xs cur) (f : Nat) (hf : CmpOf f)
    (eg : ∀ args w, (callFunc f args).run Try.prog w = .ok (.enter f args) w) (hn : xs.length < 4611686018427387904) :
    Calls Try.prog 44 #[.slice (some ⟨g, 0, none⟩) xs.length cap, .func (.func f) #[] #[]] w fun e w' => e = .returned (.tuple #[]) ∧ ∃ inner' cur', RowOf w' g base cap ok inner' (lsort xs) cur' ∧ w.grownBy w' (some g) := by
  have hlt : g < w.heap.size := (Array.getElem?_eq_some_iff.1 h.hb).1
  have hl := h.len
  have hsz := d0F_size inner
  have hcmp : CmpLays1 Try.prog f #[] (encF inner) (fun x y => lexcmp (conF inner xs x) (conF inner xs y)) g 0 (d0F inner).size w := by
    intro m os dk hs x y
    have hW : ∀ k, k < w.heap.size → k ≠ g → (sortWorld (encF inner) w g 0 m dk os).heap[k]? = w.heap[k]? := grown_blocks (grownBy_put (enc := encF inner) (n := m) (os := os) dk)
    obtain ⟨A0, c0, e0, l0, r0⟩ := h.reads hW x
    obtain ⟨A1, c1, e1, l1, r1⟩ := h.reads hW y
    rw [e0, e1]
    refine (hf _ A0 c0 _ A1 c1 _ r0 l0 r1 l1).mono ?_
    rintro e w' ⟨rfl, q, rfl⟩
    exact ⟨rfl, q, #[], by rw [grow_empty]⟩
  have hc := Any.slices_SortFunc Try.laysSF (encF inner) h.one (fun x y => lexcmp (conF inner xs x) (conF inner xs y)) (swo_lex _) f #[] g 0 cap (d0F inner) w eg hcmp h.holds hlt (by omega)
  rw [show (d0F inner).size = xs.length by omega] at hc
  refine hc.mono ?_
  rintro e w' ⟨rfl, d', n, os, hp, hs, rfl⟩
  refine ⟨rfl, ?_⟩
  have hds : d'.size = inner.length := by rw [hp.1, hsz]
  have hgr := grownBy_put (enc := encF inner) (w := w) (g := g) (n := n) (os := os) d'
  have hput := h.put d' hds d'.size (Nat.le_refl _) (grown_blocks hgr) (heap_put (n := n) (os := os) d' h.hb)
  rw [show d'.toList.take d'.size = d'.toList from List.take_of_length_le (by simp)] at hput
  have hx : d'.toList.map (conF inner xs) = lsort xs := by
    refine lsorted_unique ?_ ?_ (lsort_sorted xs)
    · have h3 := hp.2.2
      have hex : ∀ D : Array (Fin (inner.length + 1)), D.size = xs.length → D.extract 0 xs.length = D := fun D e => by rw [← e]; simp
      rw [hex d' (by omega), hex (d0F inner) (by omega)] at h3
      have h4 := h3.map (conF inner xs)
      rw [d0F_map hl] at h4
      exact h4.trans (lsort_perm xs).symm
    · rw [List.pairwise_map, List.pairwise_iff_getElem]
      intro i j hi hj hij
      have hi' : i < d'.size := by simpa using hi
      have hj' : j < d'.size := by simpa using hj
      have := hs i j (Nat.zero_le _) hij (by omega)
      rw [getElem!_pos d' i hi', getElem!_pos d' j hj'] at this
      simp only [ltOf, decide_eq_false_iff_not] at this
      have hneg := lexcmp_neg (conF inner xs d'[i]) (conF inner xs d'[j])
      simp only [Array.getElem_toList]
      omega
  rw [hx] at hput
  exact ⟨_, _, hput, hgr⟩

theorem kept_map {α : Type} [Inhabited α] (con : α → List Int) (d : Array α) : (keptUpTo (kpE (fun x y => decide (con x = con y)) d) d d.size).map con = dedup (d.toList.map con) := by
  rw [← compact_dedup]
  unfold Lib.compact compactUpTo keptUpTo
  rw [List.length_map, Array.length_toList, List.map_map]
  have hget : ∀ j, j < d.size → (d.toList.map con).toArray[j]! = con d[j]! := by
    intro j hj
    rw [getElem!_pos _ j (by simpa using hj), getElem!_pos d j hj]
    simp
  have hf : (List.range d.size).filter (kpE (fun x y => decide (con x = con y)) d) = (List.range d.size).filter (keeps (d.toList.map con).toArray) := by
    apply List.filter_congr
    intro j hj
    have hj' := List.mem_range.1 hj
    unfold kpE keeps
    rw [hget j hj', hget (j - 1) (by omega)]
    by_cases e : j = 0 <;> simp [e]
  rw [hf]
  apply List.map_congr_left
  intro j hj
  have hj' := List.mem_range.1 (List.mem_filter.1 hj).1
  rw [hget j hj']
  rfl

theorem compact_row {w : World} {g base cap : Nat} {ok : Nat → Prop} {inner : List Value} {xs : List (List Int)} {cur : Array Value} (h : RowOf w g base cap ok inner xs cur) (f : Nat) (hf : EqOf f)
    (eg : ∀ args w, (callFunc f args).run Try.prog w = .ok (.enter f args) w) (hn : xs.length < 4611686018427387904) :
    Calls Try.prog 47 #[.slice (some ⟨g, 0, none⟩) xs.length cap, .func (.func f) #[] #[]] w fun e w' => e = .returned (.slice (some ⟨g, 0, none⟩) (dedup xs).length cap) ∧ ∃ inner' cur', RowOf w' g base cap ok inner' (dedup xs) cur' ∧ w.grownBy w' (some g) := by
  have hl := h.len
  have hsz := d0F_size inner
  have hpo : ∀ (q : Nat) (dk : Array (Fin (inner.length + 1))) (x y : Fin (inner.length + 1)), dk.size = (d0F inner).size → Calls Try.prog f (#[encF inner x, encF inner y] ++ #[]) (putRow (encF inner) (Sort.ahead w q) g 0 dk) fun e w' => e = .returned (.bool (decide (conF inner xs x = conF inner xs y))) ∧ ∃ qq, w' = (putRow (encF inner) (Sort.ahead w q) g 0 dk).drewN qq := by
    intro q dk x y hs
    have hgr := grownBy_put (enc := encF inner) (w := w) (g := g) (n := q) (os := #[]) dk
    rw [grow_empty] at hgr
    obtain ⟨A0, c0, e0, l0, r0⟩ := h.reads (grown_blocks hgr) x
    obtain ⟨A1, c1, e1, l1, r1⟩ := h.reads (grown_blocks hgr) y
    rw [e0, e1]
    exact hf _ A0 c0 _ A1 c1 _ r0 l0 r1 l1
  have hc := compactFunc (encF inner) h.one (fun x y => decide (conF inner xs x = conF inner xs y)) f #[] eg 0 rfl g 0 cap (d0F inner) w hpo h.holds (by omega) (by have := h.cap1; omega)
  have hk : (keptUpTo (kpE (fun x y => decide (conF inner xs x = conF inner xs y)) (d0F inner)) (d0F inner) (d0F inner).size).map (conF inner xs) = dedup xs := by
    rw [kept_map, d0F_map hl]
  have hkl := congrArg List.length hk
  rw [List.length_map] at hkl
  generalize hL : keptUpTo (kpE (fun x y => decide (conF inner xs x = conF inner xs y)) (d0F inner)) (d0F inner) (d0F inner).size = L at hc hk hkl
  have hle : L.length ≤ inner.length := by rw [hkl, hl]; exact dedup_length_le xs
  rw [show (d0F inner).size = xs.length by omega] at hc
  refine hc.mono ?_
  rintro e w' ⟨rfl, n, rfl⟩
  rw [hkl]
  refine ⟨rfl, ?_⟩
  have hDs : (L ++ List.replicate (xs.length - L.length) (0 : Fin (inner.length + 1))).toArray.size = inner.length := by simp; omega
  rw [← hkl]
  generalize hD : (L ++ List.replicate (xs.length - L.length) (0 : Fin (inner.length + 1))).toArray = D at hDs
  have hgr := grownBy_put (enc := encF inner) (w := w) (g := g) (n := n) (os := #[]) D
  have hhp := heap_put (enc := encF inner) (n := n) (os := #[]) D h.hb
  rw [grow_empty] at hgr hhp
  have hput := h.put D hDs L.length (by omega) (grown_blocks hgr) hhp
  rw [show D.toList.take L.length = L by rw [← hD]; simp, hk] at hput
  exact ⟨_, _, hput, hgr⟩

theorem cmp46 : CmpOf 46 := by
  intro W A0 c0 l0 A1 c1 l1 r0 h0 r1 h1
  refine (slices_Compare_int_int.calls (l0.length + 1) A0 c0 l0 A1 c1 l1 _ W r0 h0 r1 h1 (compare_f l0 l1 r0.2.1)).mono ?_
  rintro e w' ⟨rfl, ⟨q, rfl⟩⟩
  exact ⟨rfl, q, rfl⟩
theorem eq14 : EqOf 14 := by
  intro W A0 c0 l0 A1 c1 l1 r0 h0 r1 h1
  refine (slices_Equal_int_int.calls (l0.length + 1) A0 c0 l0 A1 c1 l1 _ W r0 h0 r1 h1 (equal_f l0 l1 r0.2.1)).mono ?_
  rintro e w' ⟨rfl, ⟨q, rfl⟩⟩
  exact ⟨rfl, q, rfl⟩
theorem cmp45 : CmpOf 45 := by
  intro W A0 c0 l0 A1 c1 l1 r0 h0 r1 h1
  have hc := cmp46 W A0 c0 l0 A1 c1 l1 r0 h0 r1 h1
  generalize lexcmp l0 l1 = r at hc ⊢
  clear r0 r1
  go_enter Try.func45, Try.ntmps45
  go_wp2_with (go_at_call 46; refine hc.mono ?_; rintro e w' ⟨rfl, q, rfl⟩)
  go_ret
  exact ⟨rfl, q, rfl⟩
theorem eq48 : EqOf 48 := by
  intro W A0 c0 l0 A1 c1 l1 r0 h0 r1 h1
  have hc := eq14 W A0 c0 l0 A1 c1 l1 r0 h0 r1 h1
  generalize decide (l0 = l1) = r at hc ⊢
  clear r0 r1
  go_enter Try.func48, Try.ntmps48
  go_wp2_with (go_at_call 14; refine hc.mono ?_; rintro e w' ⟨rfl, q, rfl⟩)
  go_ret
  exact ⟨rfl, q, rfl⟩
theorem eq43 : EqOf 43 := by
  intro W A0 c0 l0 A1 c1 l1 r0 h0 r1 h1
  have hc := eq14 W A0 c0 l0 A1 c1 l1 r0 h0 r1 h1
  generalize decide (l0 = l1) = r at hc ⊢
  clear r0 r1
  go_enter Try.func43, Try.ntmps43
  go_wp2_with (go_at_call 14; refine hc.mono ?_; rintro e w' ⟨rfl, q, rfl⟩)
  go_ret
  exact ⟨rfl, q, rfl⟩
end Go.Proofs.Ytdbleoijefihhaa.PEv
