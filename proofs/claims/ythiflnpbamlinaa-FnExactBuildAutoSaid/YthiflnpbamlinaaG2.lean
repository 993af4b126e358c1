/- A part of the proof: a calculus of our own over the model's code, and contracts of the program's functions. -/
import Derived.WalkKit
/- The tables of this program that are read: none. -/
namespace Cal
/-- No table is read. -/
def fixed : List (Nat × Array Go.Value) := []
end Cal
