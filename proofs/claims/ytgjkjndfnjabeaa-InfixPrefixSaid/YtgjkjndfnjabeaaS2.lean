/- The plain functions that infix's functions come to: no program in sight. -/
import Derived.Test.YtgjkjndfnjabeaaS
import Derived.Lib.SlicesCompact
namespace Go.Proofs.Ytgjkjndfnjabeaa.X
open Go.Proofs.YtgjkjndfnjabeaaW.PrintWords

/-- Is a place's level as high as each one's from a place on? -/
def S.topB (l : List Int) (lo x : Int) : Bool := (List.range x.toNat).all fun y : Nat => decide ((y : Int) < lo) || decide (rd l y ≤ rd l x)
/-- The way down from one place to another. -/
def S.wayL (l : List Int) (hi lo : Int) : List Int := ((S.upZ l lo hi 0).filter fun x => S.topB l lo x) ++ [hi]
/-- infix.Follow -/
def S.followZ (l : List Int) (hi lo : Int) : List Int × Bool := if S.mayB l = true ∧ 0 ≤ lo ∧ lo ≤ hi ∧ hi < l.length then (S.wayL l hi lo, true) else ([], false)
/-- infix.back: the last place of a level at least, ahead of a place. -/
def S.backN (l : List Int) (n : Int) : Nat → Int
  | 0 => -1
  | i + 1 => if 0 < n ∧ rd l i < n then S.backN l n i else i
/-- infix.Both -/
def S.bothL (a b : List Int) : List Int := Lib.compact ((a ++ b).mergeSort fun x y => decide (x ≤ y))
/-- slices.Max -/
def S.maxL : List Int → Int
  | [] => 0
  | x :: l => l.foldl (fun m y => if m < y then y else m) x
end Go.Proofs.Ytgjkjndfnjabeaa.X
