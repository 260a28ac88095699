/- The tables that the program's text lays and the proofs look at. -/
import Derived.Calls
namespace Gab
open Go
def globT : Nat → Option (Array Value)
 | 0 => some (((List.range 20).map fun i => ((10 ^ i : Nat) : Int)).map fun z => Value.int .u64 z).toArray
  | _ => none
end Gab
