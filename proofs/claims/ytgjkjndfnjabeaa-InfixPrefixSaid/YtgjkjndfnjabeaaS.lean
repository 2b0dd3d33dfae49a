/- The plain functions that the program's own functions come to: no program in sight. -/
import Derived.Test.YtgjkjndfnjabeaaWWords
namespace Go.Proofs.Ytgjkjndfnjabeaa.X
open Go.Proofs.YtgjkjndfnjabeaaW.PrintWords

/-- A level that may not be. -/
def S.oddB (n : Int) : Bool := decide (n < 0 ∨ 31 < n)
/-- super.May -/
def S.mayB (l : List Int) : Bool := decide (0 < l.length) && (decide (l.length ≤ 200) && (decide (rd l 0 = 31) && !l.any S.oddB))
/-- super.Up, the places from i on, the rest of the levels at hand. -/
def S.upFrom : List Int → Int → Int → Int → Int → List Int
  | [], _, _, _, _ => []
  | x :: l, i, fr, hi, n => if fr ≤ i ∧ i < hi ∧ n ≤ x then i :: S.upFrom l (i + 1) fr hi n else S.upFrom l (i + 1) fr hi n
/-- super.Up -/
def S.upZ (l : List Int) (fr hi n : Int) : List Int := S.upFrom l 0 fr hi n
/-- The m-th last of some places; 0, if there are not as many. -/
def S.mthLast (a : List Int) (m : Int) : Int := if m ≤ (a.length : Int) then rd a ((a.length : Int) - m) else 0
/-- super.climb: from where the i-th level from the highest one on is taken. -/
def S.climbAt (l : List Int) (m k : Int) : Nat → Int
  | 0 => 0
  | i + 1 => if m < ((S.upZ l (S.climbAt l m k i) ((l.length : Int) - k) (31 - (i : Int))).length : Int) then rd (S.upZ l (S.climbAt l m k i) ((l.length : Int) - k) (31 - (i : Int))) (((S.upZ l (S.climbAt l m k i) ((l.length : Int) - k) (31 - (i : Int))).length : Int) - m) else S.climbAt l m k i
/-- Can something be taken at all? -/
def S.okB (l : List Int) (m k : Int) : Bool := S.mayB l && (decide (1 ≤ m) && (decide (1 ≤ k) && decide (k < (l.length : Int))))
/-- super.From -/
def S.fromZ (l : List Int) (m k n : Int) : Int := if S.okB l m k = true then (if 31 < n then 0 else S.mthLast (S.upZ l 0 ((l.length : Int) - k) (n + 1)) m) else -1
/-- The places that are taken. -/
def S.takenL (l : List Int) (m k : Int) : List Int := (S.upZ l 0 ((l.length : Int) - k) 0).filter fun i => decide (S.fromZ l m k (rd l i) ≤ i)
/-- super.Prefix -/
def S.prefZ (l : List Int) (m k : Int) : List Int × Bool := if S.okB l m k = true then (S.takenL l m k, true) else ([], false)
/-- How many places of a level at least there are from i on. -/
def S.cntZ (l : List Int) (i n : Int) : Int := ((S.upZ l i (l.length : Int) n).length : Int)
/-- What good.all comes to: is it so of each place of a level at least from which on there are m? -/
def S.allB (l : List Int) (n m : Int) (is : Int → Int → Bool) : Bool := (S.upZ l 0 (l.length : Int) n).all fun i => !(decide (m ≤ S.cntZ l i n)) || is i (S.cntZ l i n)
/-- good.Fair -/
def S.fairB (l : List Int) (n m : Int) : Bool := S.mayB l && (decide (0 ≤ n) && (decide (n ≤ 31) && (decide (1 ≤ m) && S.allB l n m fun i c => decide ((l.length : Int) - i < c * 2 ^ (n + 1).toNat))))
/-- good.Good -/
def S.goodB (l : List Int) (m : Int) : Bool := S.mayB l && (decide (1 ≤ m) && (List.range 31).all fun n => S.allB l ((n : Int) + 1) m fun i c => decide (S.cntZ l i n < 4 * c))
end Go.Proofs.Ytgjkjndfnjabeaa.X
