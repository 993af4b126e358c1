/- A part of the proof: a calculus of our own over the model's code, and contracts of the program's functions. -/
import Derived.WalkKit
/- The tables of this program that are read, and where they lie. -/
namespace Cal
/-- The powers of ten, strconv's table: the program's first variable. -/
def fixed : List (Nat × Array Go.Value) := [(0, ((List.range 20).map fun i => Go.Value.int .u64 ((10 ^ i : Nat) : Int)).toArray)]
end Cal
