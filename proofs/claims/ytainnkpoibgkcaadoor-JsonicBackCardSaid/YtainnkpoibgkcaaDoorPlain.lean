/- jsonic in plain Lean: blanks, signs, texts, the machine's steps. Conditions: none. -/
import Derived.Lib.ItoaNum
namespace Go.Proofs.YtainnkpoibgkcaaDoor
namespace Js
/-- A blank. -/
def bl : List UInt8 := [9, 10, 13, 32]
def skip (l : List UInt8) : List UInt8 := l.dropWhile (bl.contains ·)
theorem skip_le (l : List UInt8) : (skip l).length ≤ l.length := by
  unfold skip
  induction l with
  | nil => simp
  | cons c l ih =>
    rw [List.dropWhile_cons]
    split
    · simp only [List.length_cons]; omega
    · exact Nat.le_refl _
theorem skip_suffix (l : List UInt8) : skip l <:+ l := List.dropWhile_suffix _
def hd (l : List UInt8) : Int := match l with
  | [] => 0
  | c :: _ => (c.toNat : Int)
end Js
end Go.Proofs.YtainnkpoibgkcaaDoor
