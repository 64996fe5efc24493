/- Plain functions that the library's sort, compaction and comparison come to, in plain Lean. -/
import Derived.Test.YtdbleoijefihhaaPEvx3
namespace Go.Proofs.Ytdbleoijefihhaa.PEv
open Go.RowKit Go.Proofs.YtdbleoijefihhaaW.PrintWords Go.Proofs.YtdbleoijefihhaaW.PrintLast Go.Proofs.YtdbleoijefihhaaW.PrintMore

/-- Insertion into a sorted list. -/
def ins (x : Int) : List Int → List Int
  | [] => [x]
  | y :: ys => if x ≤ y then x :: y :: ys else y :: ins x ys
/-- The sorted list. -/
def isort : List Int → List Int
  | [] => []
  | x :: xs => ins x (isort xs)
/-- Consecutive runs of equal elements, each as one. -/
def dedup {α : Type} [DecidableEq α] : List α → List α
  | [] => []
  | [x] => [x]
  | x :: y :: ys => if x = y then dedup (y :: ys) else x :: dedup (y :: ys)
/-- Lexicographic comparison, as slices.Compare tells it. -/
def lexcmp : List Int → List Int → Int
  | [], [] => 0
  | [], _ :: _ => -1
  | _ :: _, [] => 1
  | x :: xs, y :: ys => if x < y then -1 else if y < x then 1 else lexcmp xs ys
def lins (x : List Int) : List (List Int) → List (List Int)
  | [] => [x]
  | y :: ys => if lexcmp x y ≤ 0 then x :: y :: ys else y :: lins x ys
def lsort : List (List Int) → List (List Int)
  | [] => []
  | x :: xs => lins x (lsort xs)
/-- A note after a change, modulo n. -/
def movedBy (n z : Int) : Int := if Int.tmod z n < 0 then wrap64 (Int.tmod z n + n) else Int.tmod z n

def slices_Sort_int_int.f (l0 : List Int) : Option (List Int) := if l0.length < 4611686018427387904 then some (isort l0) else none
def slices_Compact_int_int.f (l0 : List Int) : Option (List Int) := some (dedup l0)
def slices_Min_int_int.f : List Int → Option Int
  | [] => none
  | x :: xs => some (xs.foldl mn x)
def slices_Max_int_int.f : List Int → Option Int
  | [] => none
  | x :: xs => some (xs.foldl mx x)
def evenness_Transpose.f (k : Nat) (a0 : Int) (l1 : List Int) (a2 : Int) : Option (List Int × Int) :=
  (evenness_Check.f k a0 l1).bind fun t => if t = 0 then (if 1 ≤ a0 then (if a0 ≤ 60 then (if l1.length < 4611686018427 then some (isort (l1.map fun x => movedBy a0 (wrap64 (x + Int.tmod a2 a0))), 0) else none) else none) else none) else some ([], t)
def evenness_Inverse.f (k : Nat) (a0 : Int) (l1 : List Int) : Option (List Int × Int) :=
  (evenness_Check.f k a0 l1).bind fun t => if t = 0 then (if 1 ≤ a0 then (if a0 ≤ 60 then (if l1.length < 4611686018427 then some (isort (l1.map fun x => movedBy a0 (wrap64 (-x))), 0) else none) else none) else none) else some ([], t)
/-- All rotations, in the order of the steps. -/
def rots (a0 : Int) (l1 : List Int) : List (List Int) := (List.range a0.toNat).map fun (by_ : Nat) => isort (l1.map fun x => movedBy a0 (wrap64 (x + (by_ : Int))))
def evenness_Rotations.f (k : Nat) (a0 : Int) (l1 : List Int) : Option (List (List Int) × Int) :=
  (evenness_Check.f k a0 l1).bind fun t => if t = 0 then (if 1 ≤ a0 then (if a0 ≤ 60 then (if l1.length < 4611686018427 then some (dedup (lsort (rots a0 l1)), 0) else none) else none) else none) else some ([], t)
def schismalaw35_distinct.f (l0 : List (List Int)) : Option (List (List Int)) := if l0.length < 4611686018427387904 then some (dedup (lsort l0)) else none
def schismalaw35_same.f (l0 l1 : List (List Int)) : Option Bool := some (decide (l0 = l1))
theorem bind_check_mono {β : Type} (k : Nat) (a0 : Int) (l1 : List Int) (g : Int → Option β) : LeO ((evenness_Check.f k a0 l1).bind g) ((evenness_Check.f (k + 1) a0 l1).bind g) :=
  LeO.bind (evenness_Check.mono a0 l1 k) (fun _ => LeO.refl _)
theorem evenness_Transpose.mono : ∀ a0 a1 a2 k, LeO (evenness_Transpose.f k a0 a1 a2) (evenness_Transpose.f (k + 1) a0 a1 a2) := fun _ _ _ _ => bind_check_mono _ _ _ _
theorem evenness_Inverse.mono : ∀ a0 a1 k, LeO (evenness_Inverse.f k a0 a1) (evenness_Inverse.f (k + 1) a0 a1) := fun _ _ _ => bind_check_mono _ _ _ _
theorem evenness_Rotations.mono : ∀ a0 a1 k, LeO (evenness_Rotations.f k a0 a1) (evenness_Rotations.f (k + 1) a0 a1) := fun _ _ _ => bind_check_mono _ _ _ _
end Go.Proofs.Ytdbleoijefihhaa.PEv
