/- The abstract machine's values. -/
import Derived.Still
namespace Go.Y

/-- A value of the abstract machine. 'undef' says nothing. -/
inductive V where
  | undef
  | b (x : Bool)
  | i (k : IntKind) (n : Int)
  | s (l : List UInt8)
  | p (a : Option (Nat × Nat))
  | tp (cs : List V)
  | sl (a : Option (Nat × Nat)) (len : Nat) (cap : Option Nat) (k : Nat)
  | ts (cs : List V) (len : Nat) (cap : Option Nat)
  | mp (r : Option Nat)
  | fn (f : Fn) (first cap : List V)
  | nilfn
  | ifc (t : TypeId) (v : V)
  | nilifc
  | agg (cs : List V)
  | tup (vs : List V)
  | lb (cs : List V)
  | rf
  | yl (id : Nat)
  deriving Inhabited

end Go.Y

/- Tables that the program's start lays and nothing turns: of a variable's number its cells. Here: the powers of ten. -/
namespace Go.Y

def pow10V : List V := [.i .u64 1, .i .u64 10, .i .u64 100, .i .u64 1000, .i .u64 10000, .i .u64 100000, .i .u64 1000000, .i .u64 10000000, .i .u64 100000000, .i .u64 1000000000, .i .u64 10000000000, .i .u64 100000000000, .i .u64 1000000000000, .i .u64 10000000000000, .i .u64 100000000000000, .i .u64 1000000000000000, .i .u64 10000000000000000, .i .u64 100000000000000000, .i .u64 1000000000000000000, .i .u64 10000000000000000000]
def tabs : List (Nat × List V) := [(0, pow10V)]

end Go.Y
